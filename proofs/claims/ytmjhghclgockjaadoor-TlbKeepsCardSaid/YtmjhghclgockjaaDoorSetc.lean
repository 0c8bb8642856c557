/-
  Layer 13: put: the contract of the function and of its reference.
-/
import Derived.Test.YtmjhghclgockjaaDoorSetb
namespace Go.Proofs.YtmjhghclgockjaaDoor.Sx
open Go
set_option linter.unusedVariables false
set_option linter.unusedSimpArgs false
set_option maxRecDepth 100000

def dW (e w : En) : En := if sameF e w = true then En.zero else w
def dropTo (e : En) (s : SetD) (n : Nat) : SetD := ⟨if 0 < n then dW e s.w0 else s.w0, if 1 < n then dW e s.w1 else s.w1, if 2 < n then dW e s.w2 else s.w2, if 3 < n then dW e s.w3 else s.w3, s.t⟩
def dropFr (e : En) (s : SetD) (n : Nat) : SetD := ⟨if 3 < n then dW e s.w0 else s.w0, if 2 < n then dW e s.w1 else s.w1, if 1 < n then dW e s.w2 else s.w2, if 0 < n then dW e s.w3 else s.w3, s.t⟩
def atF (e : En) (s : SetD) (n : Nat) : Int := if 3 < n ∧ (dW e s.w0).v = false then 0 else if 2 < n ∧ (dW e s.w1).v = false then 1 else if 1 < n ∧ (dW e s.w2).v = false then 2 else if 0 < n ∧ (dW e s.w3).v = false then 3 else -1
def setPutK (s : SetD) (e : En) (v : Int) : Nat := goesF (dropTo e s 4) v
def setPut (s : SetD) (e : En) (v : Int) : SetD := ((dropTo e s 4).put (setPutK s e v) e).use (setPutK s e v)

set_option maxHeartbeats 4000000 in
theorem put_con {s : SetD} {e : En} {v : Int} (ht : s.t < 8) : Cn gAll 34 [s.dv, e.dv, i v] [(setPut s e v).dv, i (setPutK s e v)] := by
  refine con rfl rfl set_Put_c set_Put_p rfl ?_
  unfold set_Put_ir
  simp only [lv_cons, lv_nil, SetD.ds, SetD.ws, En.ds, app_cons, app_nil]
  refine wp_rounds (fun m ds => ∃ (n : Nat) (s' : SetD), ds = I n :: s'.ds ∧ n + m = 5 ∧ n ≤ 4 ∧ s' = dropTo e s n) 5 rfl ⟨0, s, rfl, by omega, by omega, by simp [dropTo]⟩ ?_
    (fun es hes => by obtain ⟨k, _, _, h1, h2, _⟩ := hes; omega)
  rintro m es Q ⟨n, s', rfl, hn, hn', hs'⟩ hQ
  have ht' : s'.t < 8 := by rw [hs']; exact ht
  simp only [SetD.ds, En.ds, app_cons, app_nil]
  have hcase : n = 0 ∨ n = 1 ∨ n = 2 ∨ n = 3 ∨ n = 4 := by omega
  rcases hcase with rfl | rfl | rfl | rfl | rfl
  · refine wp_lt rfl ?_
    simp only [lv_cons, lv_nil, app_cons, app_nil]
    refine wp_ite (t := true) rfl (fun _ => ?_) (fun h => by cases h)
    refine wp_chk rfl ?_
    refine wp_call rfl (same_con (e := e) (f := s.w0)) rfl ?_
    simp only [lv_cons, lv_nil, app_cons, app_nil]
    refine wp_ite rfl (fun h => ?_) (fun h => ?_)
    · refine wp_call rfl (drop_con (s := s') (k := 0) (by omega)).1 rfl ?_
      simp only [lv_cons, lv_nil, SetD.ds, SetD.put, En.ds, app_cons, app_nil]
      refine wp_lt (d := I (0 + 1 : Nat)) rfl ?_
      simp only [lv_cons, lv_nil, app_cons, app_nil]
      exact wp_cont rfl rfl (hQ _ ⟨0 + 1, s'.put 0 En.zero, rfl, by omega, by omega, by rw [hs']; simp [dropTo, SetD.put, dW, h]⟩)
    · refine wp_lt (d := I (0 + 1 : Nat)) rfl ?_
      simp only [lv_cons, lv_nil, app_cons, app_nil]
      exact wp_cont rfl rfl (hQ _ ⟨0 + 1, s', rfl, by omega, by omega, by rw [hs']; simp [dropTo, dW, h]⟩)
  · refine wp_lt rfl ?_
    simp only [lv_cons, lv_nil, app_cons, app_nil]
    refine wp_ite (t := true) rfl (fun _ => ?_) (fun h => by cases h)
    refine wp_chk rfl ?_
    refine wp_call rfl (same_con (e := e) (f := s.w1)) rfl ?_
    simp only [lv_cons, lv_nil, app_cons, app_nil]
    refine wp_ite rfl (fun h => ?_) (fun h => ?_)
    · refine wp_call rfl (drop_con (s := s') (k := 1) (by omega)).1 rfl ?_
      simp only [lv_cons, lv_nil, SetD.ds, SetD.put, En.ds, app_cons, app_nil]
      refine wp_lt (d := I (1 + 1 : Nat)) rfl ?_
      simp only [lv_cons, lv_nil, app_cons, app_nil]
      exact wp_cont rfl rfl (hQ _ ⟨1 + 1, s'.put 1 En.zero, rfl, by omega, by omega, by rw [hs']; simp [dropTo, SetD.put, dW, h]⟩)
    · refine wp_lt (d := I (1 + 1 : Nat)) rfl ?_
      simp only [lv_cons, lv_nil, app_cons, app_nil]
      exact wp_cont rfl rfl (hQ _ ⟨1 + 1, s', rfl, by omega, by omega, by rw [hs']; simp [dropTo, dW, h]⟩)
  · refine wp_lt rfl ?_
    simp only [lv_cons, lv_nil, app_cons, app_nil]
    refine wp_ite (t := true) rfl (fun _ => ?_) (fun h => by cases h)
    refine wp_chk rfl ?_
    refine wp_call rfl (same_con (e := e) (f := s.w2)) rfl ?_
    simp only [lv_cons, lv_nil, app_cons, app_nil]
    refine wp_ite rfl (fun h => ?_) (fun h => ?_)
    · refine wp_call rfl (drop_con (s := s') (k := 2) (by omega)).1 rfl ?_
      simp only [lv_cons, lv_nil, SetD.ds, SetD.put, En.ds, app_cons, app_nil]
      refine wp_lt (d := I (2 + 1 : Nat)) rfl ?_
      simp only [lv_cons, lv_nil, app_cons, app_nil]
      exact wp_cont rfl rfl (hQ _ ⟨2 + 1, s'.put 2 En.zero, rfl, by omega, by omega, by rw [hs']; simp [dropTo, SetD.put, dW, h]⟩)
    · refine wp_lt (d := I (2 + 1 : Nat)) rfl ?_
      simp only [lv_cons, lv_nil, app_cons, app_nil]
      exact wp_cont rfl rfl (hQ _ ⟨2 + 1, s', rfl, by omega, by omega, by rw [hs']; simp [dropTo, dW, h]⟩)
  · refine wp_lt rfl ?_
    simp only [lv_cons, lv_nil, app_cons, app_nil]
    refine wp_ite (t := true) rfl (fun _ => ?_) (fun h => by cases h)
    refine wp_chk rfl ?_
    refine wp_call rfl (same_con (e := e) (f := s.w3)) rfl ?_
    simp only [lv_cons, lv_nil, app_cons, app_nil]
    refine wp_ite rfl (fun h => ?_) (fun h => ?_)
    · refine wp_call rfl (drop_con (s := s') (k := 3) (by omega)).1 rfl ?_
      simp only [lv_cons, lv_nil, SetD.ds, SetD.put, En.ds, app_cons, app_nil]
      refine wp_lt (d := I (3 + 1 : Nat)) rfl ?_
      simp only [lv_cons, lv_nil, app_cons, app_nil]
      exact wp_cont rfl rfl (hQ _ ⟨3 + 1, s'.put 3 En.zero, rfl, by omega, by omega, by rw [hs']; simp [dropTo, SetD.put, dW, h]⟩)
    · refine wp_lt (d := I (3 + 1 : Nat)) rfl ?_
      simp only [lv_cons, lv_nil, app_cons, app_nil]
      exact wp_cont rfl rfl (hQ _ ⟨3 + 1, s', rfl, by omega, by omega, by rw [hs']; simp [dropTo, dW, h]⟩)
  · refine wp_lt rfl ?_
    simp only [lv_cons, lv_nil, app_cons, app_nil]
    refine wp_ite (t := false) rfl (fun h => by cases h) (fun _ => ?_)
    have hcon := goes_con (s := s') (v := v) ht'
    have hlt := goesF_lt (s := s') (v := v) ht'
    obtain ⟨k, hg⟩ : ∃ k, goesF s' v = k := ⟨_, rfl⟩
    rw [hg] at hcon hlt
    refine wp_call rfl hcon rfl ?_
    simp only [lv_cons, lv_nil, app_cons, app_nil]
    have hcase : k = 0 ∨ k = 1 ∨ k = 2 ∨ k = 3 := by omega
    rcases hcase with rfl | rfl | rfl | rfl
    · refine wp_chk rfl ?_
      refine wp_call rfl (use_con (s := s'.put 0 e) (k := 0) (by rw [SetD.put_t]; exact ht') (by omega)).1 rfl ?_
      simp only [lv_cons, lv_nil, SetD.ds, SetD.put, SetD.use, En.ds, app_cons, app_nil]
      refine wp_return rfl ?_
      rw [setPut, setPutK, ← hs', hg]
      rfl
    · refine wp_chk rfl ?_
      refine wp_call rfl (use_con (s := s'.put 1 e) (k := 1) (by rw [SetD.put_t]; exact ht') (by omega)).1 rfl ?_
      simp only [lv_cons, lv_nil, SetD.ds, SetD.put, SetD.use, En.ds, app_cons, app_nil]
      refine wp_return rfl ?_
      rw [setPut, setPutK, ← hs', hg]
      rfl
    · refine wp_chk rfl ?_
      refine wp_call rfl (use_con (s := s'.put 2 e) (k := 2) (by rw [SetD.put_t]; exact ht') (by omega)).1 rfl ?_
      simp only [lv_cons, lv_nil, SetD.ds, SetD.put, SetD.use, En.ds, app_cons, app_nil]
      refine wp_return rfl ?_
      rw [setPut, setPutK, ← hs', hg]
      rfl
    · refine wp_chk rfl ?_
      refine wp_call rfl (use_con (s := s'.put 3 e) (k := 3) (by rw [SetD.put_t]; exact ht') (by omega)).1 rfl ?_
      simp only [lv_cons, lv_nil, SetD.ds, SetD.put, SetD.use, En.ds, app_cons, app_nil]
      refine wp_return rfl ?_
      rw [setPut, setPutK, ← hs', hg]
      rfl

set_option maxHeartbeats 4000000 in
theorem refPut_con {s : SetD} {e : En} {v : Int} (ht : s.t < 8) : Cn gAll 48 [s.dv, e.dv, i v] [(setPut s e v).dv, i (setPutK s e v)] := by
  refine con rfl rfl atlasref13_Put_c atlasref13_Put_p rfl ?_
  unfold atlasref13_Put_ir
  simp only [lv_cons, lv_nil, SetD.ds, SetD.ws, En.ds, app_cons, app_nil]
  refine wp_rounds (fun m ds => ∃ (j : Nat) (c : Int) (s' : SetD), ds = I c :: I (3 - (j : Int)) :: s'.ws ∧ j + m = 5 ∧ j ≤ 4 ∧ s' = dropFr e s j ∧ c = atF e s j) 5 rfl ⟨0, -1, s, rfl, by omega, by omega, by simp [dropFr], by simp [atF]⟩ ?_
    (fun es hes => by obtain ⟨k, _, _, _, h1, h2, _⟩ := hes; omega)
  rintro m es Q ⟨j, c, s', rfl, hn, hn', hs', hc⟩ hQ
  simp only [SetD.ws, En.ds, app_cons, app_nil]
  have hcase : j = 0 ∨ j = 1 ∨ j = 2 ∨ j = 3 ∨ j = 4 := by omega
  rcases hcase with rfl | rfl | rfl | rfl | rfl
  · refine wp_lt (d := .b true) rfl ?_
    simp only [lv_cons, lv_nil, app_cons, app_nil]
    refine wp_ite (t := true) rfl (fun _ => ?_) (fun h => by cases h)
    refine wp_chk rfl ?_
    refine wp_call rfl (refSame_con (e := e) (f := s'.w3)) rfl ?_
    simp only [lv_cons, lv_nil, app_cons, app_nil]
    refine wp_ite rfl (fun h => ?_) (fun h => ?_)
    · refine wp_chk rfl ?_
      refine wp_chk rfl ?_
      refine wp_lt (d := .b true) rfl ?_
      simp only [lv_cons, lv_nil, app_cons, app_nil]
      refine wp_ite (t := true) rfl (fun _ => ?_) (fun h => by cases h)
      refine wp_lt (d := I (3 - 1)) rfl ?_
      simp only [lv_cons, lv_nil, app_cons, app_nil]
      exact wp_cont rfl rfl (hQ _ ⟨0 + 1, 3, s'.put 3 En.zero, rfl, by omega, by omega, by rw [hs'] at h ⊢; simp [dropFr] at h; simp [dropFr, SetD.put, dW, h], by rw [hs'] at h; simp [dropFr] at h; simp [atF, dW, h, En.zero]⟩)
    · refine wp_chk rfl ?_
      refine wp_lt rfl ?_
      simp only [lv_cons, lv_nil, app_cons, app_nil]
      refine wp_ite rfl (fun h' => ?_) (fun h' => ?_)
      · refine wp_lt (d := I (3 - 1)) rfl ?_
        simp only [lv_cons, lv_nil, app_cons, app_nil]
        exact wp_cont rfl rfl (hQ _ ⟨0 + 1, 3, s', rfl, by omega, by omega, by rw [hs'] at h ⊢; simp [dropFr] at h; simp [dropFr, dW, h], by rw [hs'] at h h'; simp [dropFr] at h h'; simp [atF, dW, h, h']⟩)
      · refine wp_lt (d := I (3 - 1)) rfl ?_
        simp only [lv_cons, lv_nil, app_cons, app_nil]
        exact wp_cont rfl rfl (hQ _ ⟨0 + 1, c, s', rfl, by omega, by omega, by rw [hs'] at h ⊢; simp [dropFr] at h; simp [dropFr, dW, h], by rw [hs'] at h h'; simp [dropFr] at h h'; rw [hc]; simp [atF, dW, h, h']⟩)
  · refine wp_lt (d := .b true) rfl ?_
    simp only [lv_cons, lv_nil, app_cons, app_nil]
    refine wp_ite (t := true) rfl (fun _ => ?_) (fun h => by cases h)
    refine wp_chk rfl ?_
    refine wp_call rfl (refSame_con (e := e) (f := s'.w2)) rfl ?_
    simp only [lv_cons, lv_nil, app_cons, app_nil]
    refine wp_ite rfl (fun h => ?_) (fun h => ?_)
    · refine wp_chk rfl ?_
      refine wp_chk rfl ?_
      refine wp_lt (d := .b true) rfl ?_
      simp only [lv_cons, lv_nil, app_cons, app_nil]
      refine wp_ite (t := true) rfl (fun _ => ?_) (fun h => by cases h)
      refine wp_lt (d := I (2 - 1)) rfl ?_
      simp only [lv_cons, lv_nil, app_cons, app_nil]
      exact wp_cont rfl rfl (hQ _ ⟨1 + 1, 2, s'.put 2 En.zero, rfl, by omega, by omega, by rw [hs'] at h ⊢; simp [dropFr] at h; simp [dropFr, SetD.put, dW, h], by rw [hs'] at h; simp [dropFr] at h; simp [atF, dW, h, En.zero]⟩)
    · refine wp_chk rfl ?_
      refine wp_lt rfl ?_
      simp only [lv_cons, lv_nil, app_cons, app_nil]
      refine wp_ite rfl (fun h' => ?_) (fun h' => ?_)
      · refine wp_lt (d := I (2 - 1)) rfl ?_
        simp only [lv_cons, lv_nil, app_cons, app_nil]
        exact wp_cont rfl rfl (hQ _ ⟨1 + 1, 2, s', rfl, by omega, by omega, by rw [hs'] at h ⊢; simp [dropFr] at h; simp [dropFr, dW, h], by rw [hs'] at h h'; simp [dropFr] at h h'; simp [atF, dW, h, h']⟩)
      · refine wp_lt (d := I (2 - 1)) rfl ?_
        simp only [lv_cons, lv_nil, app_cons, app_nil]
        exact wp_cont rfl rfl (hQ _ ⟨1 + 1, c, s', rfl, by omega, by omega, by rw [hs'] at h ⊢; simp [dropFr] at h; simp [dropFr, dW, h], by rw [hs'] at h h'; simp [dropFr] at h h'; rw [hc]; simp [atF, dW, h, h']⟩)
  · refine wp_lt (d := .b true) rfl ?_
    simp only [lv_cons, lv_nil, app_cons, app_nil]
    refine wp_ite (t := true) rfl (fun _ => ?_) (fun h => by cases h)
    refine wp_chk rfl ?_
    refine wp_call rfl (refSame_con (e := e) (f := s'.w1)) rfl ?_
    simp only [lv_cons, lv_nil, app_cons, app_nil]
    refine wp_ite rfl (fun h => ?_) (fun h => ?_)
    · refine wp_chk rfl ?_
      refine wp_chk rfl ?_
      refine wp_lt (d := .b true) rfl ?_
      simp only [lv_cons, lv_nil, app_cons, app_nil]
      refine wp_ite (t := true) rfl (fun _ => ?_) (fun h => by cases h)
      refine wp_lt (d := I (1 - 1)) rfl ?_
      simp only [lv_cons, lv_nil, app_cons, app_nil]
      exact wp_cont rfl rfl (hQ _ ⟨2 + 1, 1, s'.put 1 En.zero, rfl, by omega, by omega, by rw [hs'] at h ⊢; simp [dropFr] at h; simp [dropFr, SetD.put, dW, h], by rw [hs'] at h; simp [dropFr] at h; simp [atF, dW, h, En.zero]⟩)
    · refine wp_chk rfl ?_
      refine wp_lt rfl ?_
      simp only [lv_cons, lv_nil, app_cons, app_nil]
      refine wp_ite rfl (fun h' => ?_) (fun h' => ?_)
      · refine wp_lt (d := I (1 - 1)) rfl ?_
        simp only [lv_cons, lv_nil, app_cons, app_nil]
        exact wp_cont rfl rfl (hQ _ ⟨2 + 1, 1, s', rfl, by omega, by omega, by rw [hs'] at h ⊢; simp [dropFr] at h; simp [dropFr, dW, h], by rw [hs'] at h h'; simp [dropFr] at h h'; simp [atF, dW, h, h']⟩)
      · refine wp_lt (d := I (1 - 1)) rfl ?_
        simp only [lv_cons, lv_nil, app_cons, app_nil]
        exact wp_cont rfl rfl (hQ _ ⟨2 + 1, c, s', rfl, by omega, by omega, by rw [hs'] at h ⊢; simp [dropFr] at h; simp [dropFr, dW, h], by rw [hs'] at h h'; simp [dropFr] at h h'; rw [hc]; simp [atF, dW, h, h']⟩)
  · refine wp_lt (d := .b true) rfl ?_
    simp only [lv_cons, lv_nil, app_cons, app_nil]
    refine wp_ite (t := true) rfl (fun _ => ?_) (fun h => by cases h)
    refine wp_chk rfl ?_
    refine wp_call rfl (refSame_con (e := e) (f := s'.w0)) rfl ?_
    simp only [lv_cons, lv_nil, app_cons, app_nil]
    refine wp_ite rfl (fun h => ?_) (fun h => ?_)
    · refine wp_chk rfl ?_
      refine wp_chk rfl ?_
      refine wp_lt (d := .b true) rfl ?_
      simp only [lv_cons, lv_nil, app_cons, app_nil]
      refine wp_ite (t := true) rfl (fun _ => ?_) (fun h => by cases h)
      refine wp_lt (d := I (0 - 1)) rfl ?_
      simp only [lv_cons, lv_nil, app_cons, app_nil]
      exact wp_cont rfl rfl (hQ _ ⟨3 + 1, 0, s'.put 0 En.zero, rfl, by omega, by omega, by rw [hs'] at h ⊢; simp [dropFr] at h; simp [dropFr, SetD.put, dW, h], by rw [hs'] at h; simp [dropFr] at h; simp [atF, dW, h, En.zero]⟩)
    · refine wp_chk rfl ?_
      refine wp_lt rfl ?_
      simp only [lv_cons, lv_nil, app_cons, app_nil]
      refine wp_ite rfl (fun h' => ?_) (fun h' => ?_)
      · refine wp_lt (d := I (0 - 1)) rfl ?_
        simp only [lv_cons, lv_nil, app_cons, app_nil]
        exact wp_cont rfl rfl (hQ _ ⟨3 + 1, 0, s', rfl, by omega, by omega, by rw [hs'] at h ⊢; simp [dropFr] at h; simp [dropFr, dW, h], by rw [hs'] at h h'; simp [dropFr] at h h'; simp [atF, dW, h, h']⟩)
      · refine wp_lt (d := I (0 - 1)) rfl ?_
        simp only [lv_cons, lv_nil, app_cons, app_nil]
        exact wp_cont rfl rfl (hQ _ ⟨3 + 1, c, s', rfl, by omega, by omega, by rw [hs'] at h ⊢; simp [dropFr] at h; simp [dropFr, dW, h], by rw [hs'] at h h'; simp [dropFr] at h h'; rw [hc]; simp [atF, dW, h, h']⟩)
  · have hz : dropTo e s 4 = s' := by rw [hs']; simp [dropTo, dropFr]
    have hst : s.t = s'.t := by rw [hs']; rfl
    rw [hst]
    have ht' : s'.t < 8 := hst ▸ ht
    have hc : c = if s'.w0.v = false then 0 else if s'.w1.v = false then 1 else if s'.w2.v = false then 2 else if s'.w3.v = false then 3 else -1 := by rw [hc, hs']; simp [atF, dropFr]
    have hvl := vicN_lt ht'
    refine wp_lt (d := .b false) rfl ?_
    simp only [lv_cons, lv_nil, app_cons, app_nil]
    refine wp_ite (t := false) rfl (fun h => by cases h) (fun _ => ?_)
    refine wp_lt rfl ?_
    simp only [lv_cons, lv_nil, app_cons, app_nil]
    refine wp_ite rfl (fun hneg => ?_) (fun hneg => ?_)
    · have hneg := of_decide_eq_true hneg
      have hg0 : ¬ (0 ≤ v ∧ v < 4) → goesF s' v = vicN s'.t := fun h => by
        unfold goesF
        rw [if_neg h]
        revert hc
        (repeat' split) <;> intro hc <;> first | rfl | omega
      refine wp_call rfl (victim_con ht').2 rfl ?_
      simp only [lv_cons, lv_nil, app_cons, app_nil]
      refine wp_lt rfl ?_
      simp only [lv_cons, lv_nil, app_cons, app_nil]
      refine wp_ite rfl (fun h1 => ?_) (fun h1 => ?_)
      · have h1 := of_decide_eq_true h1
        refine wp_lt rfl ?_
        simp only [lv_cons, lv_nil, app_cons, app_nil]
        refine wp_ite rfl (fun h2 => ?_) (fun h2 => ?_)
        · have h2 := of_decide_eq_true h2
          have hg : goesF s' v = v.toNat := by unfold goesF; rw [if_pos (by omega)]
          have hcase : v = 0 ∨ v = 1 ∨ v = 2 ∨ v = 3 := by omega
          rcases hcase with rfl | rfl | rfl | rfl
          · refine wp_chk rfl ?_
            refine wp_call rfl (use_con (s := s'.put 0 e) (k := 0) (by rw [SetD.put_t]; exact ht') (by omega)).2 rfl ?_
            simp only [lv_cons, lv_nil, SetD.ds, SetD.put, SetD.use, En.ds, app_cons, app_nil]
            refine wp_return rfl ?_
            rw [setPut, setPutK, hz, hg]
            rfl
          · refine wp_chk rfl ?_
            refine wp_call rfl (use_con (s := s'.put 1 e) (k := 1) (by rw [SetD.put_t]; exact ht') (by omega)).2 rfl ?_
            simp only [lv_cons, lv_nil, SetD.ds, SetD.put, SetD.use, En.ds, app_cons, app_nil]
            refine wp_return rfl ?_
            rw [setPut, setPutK, hz, hg]
            rfl
          · refine wp_chk rfl ?_
            refine wp_call rfl (use_con (s := s'.put 2 e) (k := 2) (by rw [SetD.put_t]; exact ht') (by omega)).2 rfl ?_
            simp only [lv_cons, lv_nil, SetD.ds, SetD.put, SetD.use, En.ds, app_cons, app_nil]
            refine wp_return rfl ?_
            rw [setPut, setPutK, hz, hg]
            rfl
          · refine wp_chk rfl ?_
            refine wp_call rfl (use_con (s := s'.put 3 e) (k := 3) (by rw [SetD.put_t]; exact ht') (by omega)).2 rfl ?_
            simp only [lv_cons, lv_nil, SetD.ds, SetD.put, SetD.use, En.ds, app_cons, app_nil]
            refine wp_return rfl ?_
            rw [setPut, setPutK, hz, hg]
            rfl
        · have h2 := of_decide_eq_false h2
          have hg := hg0 (by omega)
          generalize vicN s'.t = q at *
          have hcase : q = 0 ∨ q = 1 ∨ q = 2 ∨ q = 3 := by omega
          rcases hcase with rfl | rfl | rfl | rfl
          · refine wp_chk rfl ?_
            refine wp_call rfl (use_con (s := s'.put 0 e) (k := 0) (by rw [SetD.put_t]; exact ht') (by omega)).2 rfl ?_
            simp only [lv_cons, lv_nil, SetD.ds, SetD.put, SetD.use, En.ds, app_cons, app_nil]
            refine wp_return rfl ?_
            rw [setPut, setPutK, hz, hg]
            rfl
          · refine wp_chk rfl ?_
            refine wp_call rfl (use_con (s := s'.put 1 e) (k := 1) (by rw [SetD.put_t]; exact ht') (by omega)).2 rfl ?_
            simp only [lv_cons, lv_nil, SetD.ds, SetD.put, SetD.use, En.ds, app_cons, app_nil]
            refine wp_return rfl ?_
            rw [setPut, setPutK, hz, hg]
            rfl
          · refine wp_chk rfl ?_
            refine wp_call rfl (use_con (s := s'.put 2 e) (k := 2) (by rw [SetD.put_t]; exact ht') (by omega)).2 rfl ?_
            simp only [lv_cons, lv_nil, SetD.ds, SetD.put, SetD.use, En.ds, app_cons, app_nil]
            refine wp_return rfl ?_
            rw [setPut, setPutK, hz, hg]
            rfl
          · refine wp_chk rfl ?_
            refine wp_call rfl (use_con (s := s'.put 3 e) (k := 3) (by rw [SetD.put_t]; exact ht') (by omega)).2 rfl ?_
            simp only [lv_cons, lv_nil, SetD.ds, SetD.put, SetD.use, En.ds, app_cons, app_nil]
            refine wp_return rfl ?_
            rw [setPut, setPutK, hz, hg]
            rfl
      · have h1 := of_decide_eq_false h1
        have hg := hg0 (by omega)
        generalize vicN s'.t = q at *
        have hcase : q = 0 ∨ q = 1 ∨ q = 2 ∨ q = 3 := by omega
        rcases hcase with rfl | rfl | rfl | rfl
        · refine wp_chk rfl ?_
          refine wp_call rfl (use_con (s := s'.put 0 e) (k := 0) (by rw [SetD.put_t]; exact ht') (by omega)).2 rfl ?_
          simp only [lv_cons, lv_nil, SetD.ds, SetD.put, SetD.use, En.ds, app_cons, app_nil]
          refine wp_return rfl ?_
          rw [setPut, setPutK, hz, hg]
          rfl
        · refine wp_chk rfl ?_
          refine wp_call rfl (use_con (s := s'.put 1 e) (k := 1) (by rw [SetD.put_t]; exact ht') (by omega)).2 rfl ?_
          simp only [lv_cons, lv_nil, SetD.ds, SetD.put, SetD.use, En.ds, app_cons, app_nil]
          refine wp_return rfl ?_
          rw [setPut, setPutK, hz, hg]
          rfl
        · refine wp_chk rfl ?_
          refine wp_call rfl (use_con (s := s'.put 2 e) (k := 2) (by rw [SetD.put_t]; exact ht') (by omega)).2 rfl ?_
          simp only [lv_cons, lv_nil, SetD.ds, SetD.put, SetD.use, En.ds, app_cons, app_nil]
          refine wp_return rfl ?_
          rw [setPut, setPutK, hz, hg]
          rfl
        · refine wp_chk rfl ?_
          refine wp_call rfl (use_con (s := s'.put 3 e) (k := 3) (by rw [SetD.put_t]; exact ht') (by omega)).2 rfl ?_
          simp only [lv_cons, lv_nil, SetD.ds, SetD.put, SetD.use, En.ds, app_cons, app_nil]
          refine wp_return rfl ?_
          rw [setPut, setPutK, hz, hg]
          rfl
    · have hneg := of_decide_eq_false hneg
      have hg0 : ¬ (0 ≤ v ∧ v < 4) → (goesF s' v : Int) = c := fun h => by
        unfold goesF
        rw [if_neg h]
        revert hc
        (repeat' split) <;> intro hc <;> omega
      have hc3 : c ≤ 3 := by rw [hc]; (repeat' split) <;> omega
      refine wp_lt rfl ?_
      simp only [lv_cons, lv_nil, app_cons, app_nil]
      refine wp_ite rfl (fun h1 => ?_) (fun h1 => ?_)
      · have h1 := of_decide_eq_true h1
        refine wp_lt rfl ?_
        simp only [lv_cons, lv_nil, app_cons, app_nil]
        refine wp_ite rfl (fun h2 => ?_) (fun h2 => ?_)
        · have h2 := of_decide_eq_true h2
          have hg : goesF s' v = v.toNat := by unfold goesF; rw [if_pos (by omega)]
          have hcase : v = 0 ∨ v = 1 ∨ v = 2 ∨ v = 3 := by omega
          rcases hcase with rfl | rfl | rfl | rfl
          · refine wp_chk rfl ?_
            refine wp_call rfl (use_con (s := s'.put 0 e) (k := 0) (by rw [SetD.put_t]; exact ht') (by omega)).2 rfl ?_
            simp only [lv_cons, lv_nil, SetD.ds, SetD.put, SetD.use, En.ds, app_cons, app_nil]
            refine wp_return rfl ?_
            rw [setPut, setPutK, hz, hg]
            rfl
          · refine wp_chk rfl ?_
            refine wp_call rfl (use_con (s := s'.put 1 e) (k := 1) (by rw [SetD.put_t]; exact ht') (by omega)).2 rfl ?_
            simp only [lv_cons, lv_nil, SetD.ds, SetD.put, SetD.use, En.ds, app_cons, app_nil]
            refine wp_return rfl ?_
            rw [setPut, setPutK, hz, hg]
            rfl
          · refine wp_chk rfl ?_
            refine wp_call rfl (use_con (s := s'.put 2 e) (k := 2) (by rw [SetD.put_t]; exact ht') (by omega)).2 rfl ?_
            simp only [lv_cons, lv_nil, SetD.ds, SetD.put, SetD.use, En.ds, app_cons, app_nil]
            refine wp_return rfl ?_
            rw [setPut, setPutK, hz, hg]
            rfl
          · refine wp_chk rfl ?_
            refine wp_call rfl (use_con (s := s'.put 3 e) (k := 3) (by rw [SetD.put_t]; exact ht') (by omega)).2 rfl ?_
            simp only [lv_cons, lv_nil, SetD.ds, SetD.put, SetD.use, En.ds, app_cons, app_nil]
            refine wp_return rfl ?_
            rw [setPut, setPutK, hz, hg]
            rfl
        · have h2 := of_decide_eq_false h2
          have hg : goesF s' v = c.toNat := by have := hg0 (by omega); omega
          have hcase : c = 0 ∨ c = 1 ∨ c = 2 ∨ c = 3 := by omega
          clear hc hg0
          rcases hcase with rfl | rfl | rfl | rfl
          · refine wp_chk rfl ?_
            refine wp_call rfl (use_con (s := s'.put 0 e) (k := 0) (by rw [SetD.put_t]; exact ht') (by omega)).2 rfl ?_
            simp only [lv_cons, lv_nil, SetD.ds, SetD.put, SetD.use, En.ds, app_cons, app_nil]
            refine wp_return rfl ?_
            rw [setPut, setPutK, hz, hg]
            rfl
          · refine wp_chk rfl ?_
            refine wp_call rfl (use_con (s := s'.put 1 e) (k := 1) (by rw [SetD.put_t]; exact ht') (by omega)).2 rfl ?_
            simp only [lv_cons, lv_nil, SetD.ds, SetD.put, SetD.use, En.ds, app_cons, app_nil]
            refine wp_return rfl ?_
            rw [setPut, setPutK, hz, hg]
            rfl
          · refine wp_chk rfl ?_
            refine wp_call rfl (use_con (s := s'.put 2 e) (k := 2) (by rw [SetD.put_t]; exact ht') (by omega)).2 rfl ?_
            simp only [lv_cons, lv_nil, SetD.ds, SetD.put, SetD.use, En.ds, app_cons, app_nil]
            refine wp_return rfl ?_
            rw [setPut, setPutK, hz, hg]
            rfl
          · refine wp_chk rfl ?_
            refine wp_call rfl (use_con (s := s'.put 3 e) (k := 3) (by rw [SetD.put_t]; exact ht') (by omega)).2 rfl ?_
            simp only [lv_cons, lv_nil, SetD.ds, SetD.put, SetD.use, En.ds, app_cons, app_nil]
            refine wp_return rfl ?_
            rw [setPut, setPutK, hz, hg]
            rfl
      · have h1 := of_decide_eq_false h1
        have hg : goesF s' v = c.toNat := by have := hg0 (by omega); omega
        have hcase : c = 0 ∨ c = 1 ∨ c = 2 ∨ c = 3 := by omega
        clear hc hg0
        rcases hcase with rfl | rfl | rfl | rfl
        · refine wp_chk rfl ?_
          refine wp_call rfl (use_con (s := s'.put 0 e) (k := 0) (by rw [SetD.put_t]; exact ht') (by omega)).2 rfl ?_
          simp only [lv_cons, lv_nil, SetD.ds, SetD.put, SetD.use, En.ds, app_cons, app_nil]
          refine wp_return rfl ?_
          rw [setPut, setPutK, hz, hg]
          rfl
        · refine wp_chk rfl ?_
          refine wp_call rfl (use_con (s := s'.put 1 e) (k := 1) (by rw [SetD.put_t]; exact ht') (by omega)).2 rfl ?_
          simp only [lv_cons, lv_nil, SetD.ds, SetD.put, SetD.use, En.ds, app_cons, app_nil]
          refine wp_return rfl ?_
          rw [setPut, setPutK, hz, hg]
          rfl
        · refine wp_chk rfl ?_
          refine wp_call rfl (use_con (s := s'.put 2 e) (k := 2) (by rw [SetD.put_t]; exact ht') (by omega)).2 rfl ?_
          simp only [lv_cons, lv_nil, SetD.ds, SetD.put, SetD.use, En.ds, app_cons, app_nil]
          refine wp_return rfl ?_
          rw [setPut, setPutK, hz, hg]
          rfl
        · refine wp_chk rfl ?_
          refine wp_call rfl (use_con (s := s'.put 3 e) (k := 3) (by rw [SetD.put_t]; exact ht') (by omega)).2 rfl ?_
          simp only [lv_cons, lv_nil, SetD.ds, SetD.put, SetD.use, En.ds, app_cons, app_nil]
          refine wp_return rfl ?_
          rw [setPut, setPutK, hz, hg]
          rfl
end Go.Proofs.YtmjhghclgockjaaDoor.Sx
