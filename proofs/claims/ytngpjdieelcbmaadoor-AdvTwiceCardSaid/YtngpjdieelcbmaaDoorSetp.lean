/-
  Layer 13: what putting leaves of a set.
-/
import Derived.Test.YtngpjdieelcbmaaDoorSetc
namespace Go.Proofs.YtngpjdieelcbmaaDoor.Sx
open Go
set_option linter.unusedVariables false
set_option linter.unusedSimpArgs false
set_option maxRecDepth 100000

def SetD.at (s : SetD) : Nat → En
  | 0 => s.w0
  | 1 => s.w1
  | 2 => s.w2
  | _ => s.w3
/-! ### what putting leaves -/
theorem same_symm {e f : En} : sameF e f = sameF f e := by
  rw [Bool.eq_iff_iff]
  simp only [sameF, Bool.and_eq_true, beq_iff_eq, Bool.or_eq_true]
  constructor
  · rintro ⟨⟨⟨⟨h1, h2⟩, h3⟩, h4⟩, h5⟩
    exact ⟨⟨⟨⟨h2, h1⟩, h3.symm⟩, h4.symm⟩, h5.elim (fun h => h.elim (fun h => .inl (.inl h.symm)) .inr) (fun h => .inl (.inr h))⟩
  · rintro ⟨⟨⟨⟨h1, h2⟩, h3⟩, h4⟩, h5⟩
    exact ⟨⟨⟨⟨h2, h1⟩, h3.symm⟩, h4.symm⟩, h5.elim (fun h => h.elim (fun h => .inl (.inl h.symm)) .inr) (fun h => .inl (.inr h))⟩
theorem same_zero {e : En} : sameF En.zero e = false := by simp [sameF, En.zero]
theorem same_zero' {e : En} : sameF e En.zero = false := by rw [same_symm]; exact same_zero
theorem dW_same {e w : En} : sameF (dW e w) e = false := by
  unfold dW
  split
  · exact same_zero
  · rename_i h
    rw [same_symm]
    simpa using h
theorem dW_sub {e a b : En} (h : sameF a b = false) : sameF (dW e a) (dW e b) = false := by
  unfold dW
  split
  · exact same_zero
  · split
    · exact same_zero'
    · exact h
theorem dW_v {e w : En} : (dW e w).v = (w.v && !sameF e w) := by
  unfold dW
  split
  · rename_i h; simp [En.zero, h]
  · rename_i h
    have h : sameF e w = false := by simpa using h
    simp [h]
theorem dW_may {e w : En} (h : w.may = true) : (dW e w).may = true := by
  unfold dW
  split
  · decide
  · exact h
theorem same_v {e w : En} (h : sameF e w = true) : w.v = true := by
  simp only [sameF, Bool.and_eq_true] at h
  exact h.1.1.1.2

/-- the set behind putting, written out -/
def putW (e : En) (s : SetD) (k : Nat) : SetD := ⟨if k = 0 then e else dW e s.w0, if k = 1 then e else dW e s.w1, if k = 2 then e else dW e s.w2, if k = 3 then e else dW e s.w3, touN s.t k⟩
theorem putW_0 {e : En} {s : SetD} : putW e s 0 = ⟨e, dW e s.w1, dW e s.w2, dW e s.w3, touN s.t 0⟩ := rfl
theorem putW_1 {e : En} {s : SetD} : putW e s 1 = ⟨dW e s.w0, e, dW e s.w2, dW e s.w3, touN s.t 1⟩ := rfl
theorem putW_2 {e : En} {s : SetD} : putW e s 2 = ⟨dW e s.w0, dW e s.w1, e, dW e s.w3, touN s.t 2⟩ := rfl
theorem putW_3 {e : En} {s : SetD} : putW e s 3 = ⟨dW e s.w0, dW e s.w1, dW e s.w2, e, touN s.t 3⟩ := rfl
theorem setPut_eq {s : SetD} {e : En} {v : Int} {k : Nat} (hk : setPutK s e v = k) (h4 : k < 4) : setPut s e v = putW e s k := by
  unfold setPut
  rw [hk]
  have hcase : k = 0 ∨ k = 1 ∨ k = 2 ∨ k = 3 := by omega
  rcases hcase with rfl | rfl | rfl | rfl <;> simp [SetD.put, SetD.use, dropTo, putW]
theorem touN_lt {t k : Nat} (ht : t < 8) (hk : k < 4) : touN t k < 8 := by
  unfold touN
  split
  · omega
  · split
    · omega
    · split <;> omega
theorem vic_away {t k : Nat} (ht : t < 8) (hk : k < 4) : vicN (touN t k) / 2 ≠ k / 2 := by
  have hcase : k = 0 ∨ k = 1 ∨ k = 2 ∨ k = 3 := by omega
  rcases hcase with rfl | rfl | rfl | rfl <;> simp only [touN] <;> simp [vicN] <;> split <;> omega
theorem putW_right {e : En} {s : SetD} {k : Nat} (hs : s.right = true) (he : e.may = true) (hk : k < 4) : (putW e s k).right = true := by
  obtain ⟨ht, m0, m1, m2, m3⟩ := SetD.right_may hs
  simp only [SetD.right, putW, Bool.and_eq_true]
  refine ⟨⟨⟨⟨decide_eq_true (touN_lt ht hk), ?_⟩, ?_⟩, ?_⟩, ?_⟩ <;> split <;> first | exact he | (apply dW_may; assumption)
theorem putW_ok {e : En} {s : SetD} {k : Nat} (hs : s.Ok) (he : e.Ok) : (putW e s k).Ok := by
  have hz : ∀ w : En, w.Ok → (dW e w).Ok := fun w hw => by
    unfold dW
    split
    · exact ⟨by decide, by decide, by decide⟩
    · exact hw
  refine ⟨?_, ?_, ?_, ?_⟩ <;> simp only [putW] <;> split <;> first | exact he | (apply hz; first | exact hs.w0 | exact hs.w1 | exact hs.w2 | exact hs.w3)
def unlikeF (s : SetD) : Bool := !sameF s.w1 s.w0 && !sameF s.w2 s.w0 && !sameF s.w2 s.w1 && !sameF s.w3 s.w0 && !sameF s.w3 s.w1 && !sameF s.w3 s.w2
theorem putW_unlike {e : En} {s : SetD} {k : Nat} (h : unlikeF s = true) (hk : k < 4) : unlikeF (putW e s k) = true := by
  simp only [unlikeF, Bool.and_eq_true, Bool.not_eq_true'] at h ⊢
  obtain ⟨⟨⟨⟨⟨h1, h2⟩, h3⟩, h4⟩, h5⟩, h6⟩ := h
  have he : ∀ w, sameF e (dW e w) = false := fun w => by rw [same_symm]; exact dW_same
  have hcase : k = 0 ∨ k = 1 ∨ k = 2 ∨ k = 3 := by omega
  rcases hcase with rfl | rfl | rfl | rfl <;> simp [putW, dW_same, he, dW_sub h1, dW_sub h2, dW_sub h3, dW_sub h4, dW_sub h5, dW_sub h6]
end Go.Proofs.YtngpjdieelcbmaaDoor.Sx
