/-
  Layer 13: put: the contract of the function and of its reference.
-/
import Derived.Test.YtngpjdieelcbmaaDoorSetb
namespace Go.Proofs.YtngpjdieelcbmaaDoor.Sx
open Go
set_option linter.unusedVariables false
set_option linter.unusedSimpArgs false
set_option maxRecDepth 100000

def dW (e w : En) : En := if sameF e w = true then En.zero else w
def dropTo (e : En) (s : SetD) (n : Nat) : SetD := ⟨if 0 < n then dW e s.w0 else s.w0, if 1 < n then dW e s.w1 else s.w1, if 2 < n then dW e s.w2 else s.w2, if 3 < n then dW e s.w3 else s.w3, s.t⟩
def dropFr (e : En) (s : SetD) (n : Nat) : SetD := ⟨if 3 < n then dW e s.w0 else s.w0, if 2 < n then dW e s.w1 else s.w1, if 1 < n then dW e s.w2 else s.w2, if 0 < n then dW e s.w3 else s.w3, s.t⟩
def atF (e : En) (s : SetD) (n : Nat) : Int := if 3 < n ∧ (dW e s.w0).v = false then 0 else if 2 < n ∧ (dW e s.w1).v = false then 1 else if 1 < n ∧ (dW e s.w2).v = false then 2 else if 0 < n ∧ (dW e s.w3).v = false then 3 else -1
def setPutK (s : SetD) (e : En) (v : Int) : Nat := goesF (dropTo e s 4) v
def setPut (s : SetD) (e : En) (v : Int) : SetD := ((dropTo e s 4).put (setPutK s e v) e).use (setPutK s e v)

set_option maxHeartbeats 4000000 in
theorem put_con {s : SetD} {e : En} {v : Int} (ht : s.t < 8) : Cn gAll 38 [s.dv, e.dv, i v] [(setPut s e v).dv, i (setPutK s e v)] := by
  refine con rfl rfl set_Put_c set_Put_p rfl ?_
  unfold set_Put_ir
  simp only [lv_cons, lv_nil, SetD.ds, SetD.ws, En.ds, app_cons, app_nil]
  refine wp_rounds (fun m ds => ∃ (n : Nat) (s' : SetD), ds = I n :: s'.ds ∧ n + m = 5 ∧ n ≤ 4 ∧ s' = dropTo e s n) 5 rfl ⟨0, s, rfl, by omega, by omega, by simp [dropTo]⟩ ?_
    (fun es hes => by obtain ⟨k, _, _, h1, h2, _⟩ := hes; omega)
  rintro m es Q ⟨n, s', rfl, hn, hn', hs'⟩ hQ
  have ht' : s'.t < 8 := by rw [hs']; exact ht
  simp only [SetD.ds, En.ds, app_cons, app_nil]
  have hcase : n = 0 ∨ n = 1 ∨ n = 2 ∨ n = 3 ∨ n = 4 := by omega
  rcases hcase with rfl | rfl | rfl | rfl | rfl
  · refine wp_lt rfl ?_
    simp only [lv_cons, lv_nil, app_cons, app_nil]
    refine wp_ite (t := true) rfl (fun _ => ?_) (fun h => by cases h)
    refine wp_chk rfl ?_
    refine wp_call rfl (same_con (e := e) (f := s.w0)) rfl ?_
    simp only [lv_cons, lv_nil, app_cons, app_nil]
    refine wp_ite rfl (fun h => ?_) (fun h => ?_)
    · refine wp_call rfl (drop_con (s := s') (k := 0) (by omega)) rfl ?_
      simp only [lv_cons, lv_nil, SetD.ds, SetD.put, En.ds, app_cons, app_nil]
      refine wp_lt (d := I (0 + 1 : Nat)) rfl ?_
      simp only [lv_cons, lv_nil, app_cons, app_nil]
      exact wp_cont rfl rfl (hQ _ ⟨0 + 1, s'.put 0 En.zero, rfl, by omega, by omega, by rw [hs']; simp [dropTo, SetD.put, dW, h]⟩)
    · refine wp_lt (d := I (0 + 1 : Nat)) rfl ?_
      simp only [lv_cons, lv_nil, app_cons, app_nil]
      exact wp_cont rfl rfl (hQ _ ⟨0 + 1, s', rfl, by omega, by omega, by rw [hs']; simp [dropTo, dW, h]⟩)
  · refine wp_lt rfl ?_
    simp only [lv_cons, lv_nil, app_cons, app_nil]
    refine wp_ite (t := true) rfl (fun _ => ?_) (fun h => by cases h)
    refine wp_chk rfl ?_
    refine wp_call rfl (same_con (e := e) (f := s.w1)) rfl ?_
    simp only [lv_cons, lv_nil, app_cons, app_nil]
    refine wp_ite rfl (fun h => ?_) (fun h => ?_)
    · refine wp_call rfl (drop_con (s := s') (k := 1) (by omega)) rfl ?_
      simp only [lv_cons, lv_nil, SetD.ds, SetD.put, En.ds, app_cons, app_nil]
      refine wp_lt (d := I (1 + 1 : Nat)) rfl ?_
      simp only [lv_cons, lv_nil, app_cons, app_nil]
      exact wp_cont rfl rfl (hQ _ ⟨1 + 1, s'.put 1 En.zero, rfl, by omega, by omega, by rw [hs']; simp [dropTo, SetD.put, dW, h]⟩)
    · refine wp_lt (d := I (1 + 1 : Nat)) rfl ?_
      simp only [lv_cons, lv_nil, app_cons, app_nil]
      exact wp_cont rfl rfl (hQ _ ⟨1 + 1, s', rfl, by omega, by omega, by rw [hs']; simp [dropTo, dW, h]⟩)
  · refine wp_lt rfl ?_
    simp only [lv_cons, lv_nil, app_cons, app_nil]
    refine wp_ite (t := true) rfl (fun _ => ?_) (fun h => by cases h)
    refine wp_chk rfl ?_
    refine wp_call rfl (same_con (e := e) (f := s.w2)) rfl ?_
    simp only [lv_cons, lv_nil, app_cons, app_nil]
    refine wp_ite rfl (fun h => ?_) (fun h => ?_)
    · refine wp_call rfl (drop_con (s := s') (k := 2) (by omega)) rfl ?_
      simp only [lv_cons, lv_nil, SetD.ds, SetD.put, En.ds, app_cons, app_nil]
      refine wp_lt (d := I (2 + 1 : Nat)) rfl ?_
      simp only [lv_cons, lv_nil, app_cons, app_nil]
      exact wp_cont rfl rfl (hQ _ ⟨2 + 1, s'.put 2 En.zero, rfl, by omega, by omega, by rw [hs']; simp [dropTo, SetD.put, dW, h]⟩)
    · refine wp_lt (d := I (2 + 1 : Nat)) rfl ?_
      simp only [lv_cons, lv_nil, app_cons, app_nil]
      exact wp_cont rfl rfl (hQ _ ⟨2 + 1, s', rfl, by omega, by omega, by rw [hs']; simp [dropTo, dW, h]⟩)
  · refine wp_lt rfl ?_
    simp only [lv_cons, lv_nil, app_cons, app_nil]
    refine wp_ite (t := true) rfl (fun _ => ?_) (fun h => by cases h)
    refine wp_chk rfl ?_
    refine wp_call rfl (same_con (e := e) (f := s.w3)) rfl ?_
    simp only [lv_cons, lv_nil, app_cons, app_nil]
    refine wp_ite rfl (fun h => ?_) (fun h => ?_)
    · refine wp_call rfl (drop_con (s := s') (k := 3) (by omega)) rfl ?_
      simp only [lv_cons, lv_nil, SetD.ds, SetD.put, En.ds, app_cons, app_nil]
      refine wp_lt (d := I (3 + 1 : Nat)) rfl ?_
      simp only [lv_cons, lv_nil, app_cons, app_nil]
      exact wp_cont rfl rfl (hQ _ ⟨3 + 1, s'.put 3 En.zero, rfl, by omega, by omega, by rw [hs']; simp [dropTo, SetD.put, dW, h]⟩)
    · refine wp_lt (d := I (3 + 1 : Nat)) rfl ?_
      simp only [lv_cons, lv_nil, app_cons, app_nil]
      exact wp_cont rfl rfl (hQ _ ⟨3 + 1, s', rfl, by omega, by omega, by rw [hs']; simp [dropTo, dW, h]⟩)
  · refine wp_lt rfl ?_
    simp only [lv_cons, lv_nil, app_cons, app_nil]
    refine wp_ite (t := false) rfl (fun h => by cases h) (fun _ => ?_)
    have hcon := goes_con (s := s') (v := v) ht'
    have hlt := goesF_lt (s := s') (v := v) ht'
    obtain ⟨k, hg⟩ : ∃ k, goesF s' v = k := ⟨_, rfl⟩
    rw [hg] at hcon hlt
    refine wp_call rfl hcon rfl ?_
    simp only [lv_cons, lv_nil, app_cons, app_nil]
    have hcase : k = 0 ∨ k = 1 ∨ k = 2 ∨ k = 3 := by omega
    rcases hcase with rfl | rfl | rfl | rfl
    · refine wp_chk rfl ?_
      refine wp_call rfl (use_con (s := s'.put 0 e) (k := 0) (by rw [SetD.put_t]; exact ht') (by omega)) rfl ?_
      simp only [lv_cons, lv_nil, SetD.ds, SetD.put, SetD.use, En.ds, app_cons, app_nil]
      refine wp_return rfl ?_
      rw [setPut, setPutK, ← hs', hg]
      rfl
    · refine wp_chk rfl ?_
      refine wp_call rfl (use_con (s := s'.put 1 e) (k := 1) (by rw [SetD.put_t]; exact ht') (by omega)) rfl ?_
      simp only [lv_cons, lv_nil, SetD.ds, SetD.put, SetD.use, En.ds, app_cons, app_nil]
      refine wp_return rfl ?_
      rw [setPut, setPutK, ← hs', hg]
      rfl
    · refine wp_chk rfl ?_
      refine wp_call rfl (use_con (s := s'.put 2 e) (k := 2) (by rw [SetD.put_t]; exact ht') (by omega)) rfl ?_
      simp only [lv_cons, lv_nil, SetD.ds, SetD.put, SetD.use, En.ds, app_cons, app_nil]
      refine wp_return rfl ?_
      rw [setPut, setPutK, ← hs', hg]
      rfl
    · refine wp_chk rfl ?_
      refine wp_call rfl (use_con (s := s'.put 3 e) (k := 3) (by rw [SetD.put_t]; exact ht') (by omega)) rfl ?_
      simp only [lv_cons, lv_nil, SetD.ds, SetD.put, SetD.use, En.ds, app_cons, app_nil]
      refine wp_return rfl ?_
      rw [setPut, setPutK, ← hs', hg]
      rfl

end Go.Proofs.YtngpjdieelcbmaaDoor.Sx
