/-
  Layer 14: how many entries there are: plain.
-/
import Derived.Test.YtngpjdieelcbmaaDoorTlbc
namespace Go.Proofs.YtngpjdieelcbmaaDoor.Sx
open Go
set_option linter.unusedVariables false
set_option linter.unusedSimpArgs false
set_option maxRecDepth 100000

/-! ### how many there are -/
def cnt (s : SetD) : Nat := (s.en.filter (·.v)).length
theorem cnt_eq {s : SetD} : cnt s = s.w0.v.toNat + s.w1.v.toNat + s.w2.v.toNat + s.w3.v.toNat := by
  unfold cnt SetD.en
  simp only [List.filter_cons, List.filter_nil]
  cases s.w0.v <;> cases s.w1.v <;> cases s.w2.v <;> cases s.w3.v <;> rfl
theorem allT_cons {s : SetD} {ts : List SetD} : (allT (s :: ts)).length = cnt s + (allT ts).length := by
  have : allT (s :: ts) = s.en.filter (·.v) ++ allT ts := by
    unfold allT
    rw [← List.filter_append]
    rfl
  rw [this, List.length_append]
  rfl
theorem allT_set {s' : SetD} : ∀ {ts : List SetD} {j : Nat} {s : SetD}, ts[j]? = some s → (allT (ts.set j s')).length + cnt s = (allT ts).length + cnt s'
  | [], j, s, h => by simp at h
  | t :: ts, 0, s, h => by
    obtain rfl : t = s := by simpa using h
    rw [List.set_cons_zero, allT_cons, allT_cons]
    omega
  | t :: ts, j + 1, s, h => by
    have ih := allT_set (s' := s') (ts := ts) (j := j) (s := s) (by simpa using h)
    rw [List.set_cons_succ, allT_cons, allT_cons]
    omega
theorem and_le {a b : Bool} : (a && b).toNat ≤ a.toNat := by cases a <;> cases b <;> decide
theorem bool_le {a : Bool} : a.toNat ≤ 1 := by cases a <;> decide
theorem cnt_put {e : En} {s : SetD} {k : Nat} (hk : k < 4) : cnt (putW e s k) ≤ cnt s + 1 := by
  have h0 : (dW e s.w0).v.toNat ≤ s.w0.v.toNat := by rw [dW_v]; exact and_le
  have h1 : (dW e s.w1).v.toNat ≤ s.w1.v.toNat := by rw [dW_v]; exact and_le
  have h2 : (dW e s.w2).v.toNat ≤ s.w2.v.toNat := by rw [dW_v]; exact and_le
  have h3 : (dW e s.w3).v.toNat ≤ s.w3.v.toNat := by rw [dW_v]; exact and_le
  have h4 := bool_le (a := e.v)
  have hcase : k = 0 ∨ k = 1 ∨ k = 2 ∨ k = 3 := by omega
  rw [cnt_eq, cnt_eq]
  rcases hcase with rfl | rfl | rfl | rfl
  · rw [putW_0]; simp only; omega
  · rw [putW_1]; simp only; omega
  · rw [putW_2]; simp only; omega
  · rw [putW_3]; simp only; omega
theorem cnt_drop {s : SetD} {k : Nat} (hk : k < 4) : cnt (s.put k En.zero) + (s.at k).v.toNat = cnt s := by
  have hcase : k = 0 ∨ k = 1 ∨ k = 2 ∨ k = 3 := by omega
  have hz : En.zero.v.toNat = 0 := rfl
  rw [cnt_eq, cnt_eq]
  rcases hcase with rfl | rfl | rfl | rfl <;> simp only [SetD.put, SetD.at, hz] <;> omega
theorem cnt_use {s : SetD} {k : Nat} : cnt (s.use k) = cnt s := rfl

theorem dropT_eq {ts : List SetD} {j k : Nat} {s : SetD} (hs : ts[j]? = some s) (hk : k < 4) : dropT ts j k = (ts.set j (s.put k En.zero), 0) := by
  have hj := (List.getElem?_eq_some_iff.1 hs).1
  unfold dropT
  rw [if_pos (by omega), Int.toNat_natCast, Int.toNat_natCast, hs]
end Go.Proofs.YtngpjdieelcbmaaDoor.Sx
