/-
  Arguments: lists of entries, of sets: what a law is handed.
-/
import Derived.Test.YtobdkhjaipoliaaGreatDoorZS1
import Derived.Test.YtobdkhjaipoliaaGreatDoorZBg
import Derived.OpenShut
namespace Go.Proofs.YtobdkhjaipoliaaGreatDoor.Sx
open Go
set_option linter.unusedVariables false
set_option maxRecDepth 100000
def ENT : List LT := [.b, .i .u64, .b, .i .i64, .i .u64, .i .u64, .b, .b, .b, .b, .b]
theorem en_of {r : List D} (hl : r.length = 11) (h : ∀ (j : Nat) (t : LT) (d : D), ENT[j]? = some t → r[j]? = some d → HasTy t d) : ∃ e : En, e.Ok ∧ r = e.ds := by
  match r, hl with
  | [d0, d1, d2, d3, d4, d5, d6, d7, d8, d9, d10], _ =>
    obtain ⟨x0, rfl⟩ := ty_b (h 0 .b d0 rfl rfl)
    obtain ⟨x1, h1, rfl⟩ := ty_i (h 1 (.i .u64) d1 rfl rfl)
    obtain ⟨x2, rfl⟩ := ty_b (h 2 .b d2 rfl rfl)
    obtain ⟨x3, h3, rfl⟩ := ty_i (h 3 (.i .i64) d3 rfl rfl)
    obtain ⟨x4, h4, rfl⟩ := ty_i (h 4 (.i .u64) d4 rfl rfl)
    obtain ⟨x5, h5, rfl⟩ := ty_i (h 5 (.i .u64) d5 rfl rfl)
    obtain ⟨x6, rfl⟩ := ty_b (h 6 .b d6 rfl rfl)
    obtain ⟨x7, rfl⟩ := ty_b (h 7 .b d7 rfl rfl)
    obtain ⟨x8, rfl⟩ := ty_b (h 8 .b d8 rfl rfl)
    obtain ⟨x9, rfl⟩ := ty_b (h 9 .b d9 rfl rfl)
    obtain ⟨x10, rfl⟩ := ty_b (h 10 .b d10 rfl rfl)
    have b1 := bounds_u64 h1
    have b4 := bounds_u64 h4
    have b5 := bounds_u64 h5
    clear h h1 h4 h5
    obtain ⟨n1, rfl⟩ := Int.eq_ofNat_of_zero_le b1.1
    obtain ⟨n4, rfl⟩ := Int.eq_ofNat_of_zero_le b4.1
    obtain ⟨n5, rfl⟩ := Int.eq_ofNat_of_zero_le b5.1
    exact ⟨⟨x0, n1, x2, x3, n4, n5, x6, x7, x8, x9, x10⟩, ⟨by simp only; omega, by simp only; omega, by simp only; omega⟩, rfl⟩
def SETR : List LT := ENT ++ (ENT ++ (ENT ++ (ENT ++ [.i .u8])))
theorem en_sub {T : List LT} {r : List D} (k : Nat) (hT : (T.drop k).take 11 = ENT) (hr : k + 11 ≤ r.length) (h : ∀ (j : Nat) (t : LT) (d : D), T[j]? = some t → r[j]? = some d → HasTy t d) : ∃ e : En, e.Ok ∧ (r.drop k).take 11 = e.ds := by
  refine en_of (by rw [List.length_take, List.length_drop]; omega) (fun j t d ht hd => ?_)
  rw [← hT, List.getElem?_take] at ht
  rw [List.getElem?_take] at hd
  split at ht
  · rename_i hj
    rw [if_pos hj, List.getElem?_drop] at hd
    rw [List.getElem?_drop] at ht
    exact h _ _ _ ht hd
  · cases ht
theorem set_of {r : List D} (hl : r.length = 45) (h : ∀ (j : Nat) (t : LT) (d : D), SETR[j]? = some t → r[j]? = some d → HasTy t d) : ∃ s : SetD, s.Ok ∧ r = s.ds := by
  obtain ⟨e0, k0, h0⟩ := en_sub 0 rfl (by omega) h
  obtain ⟨e1, k1, h1⟩ := en_sub 11 rfl (by omega) h
  obtain ⟨e2, k2, h2⟩ := en_sub 22 rfl (by omega) h
  obtain ⟨e3, k3, h3⟩ := en_sub 33 rfl (by omega) h
  obtain ⟨d, hd⟩ : ∃ d, r[44]? = some d := ⟨_, List.getElem?_eq_getElem (by omega)⟩
  obtain ⟨x, hx, rfl⟩ := ty_i (h 44 (.i .u8) d rfl hd)
  have b := bounds_u8 hx
  obtain ⟨n, rfl⟩ := Int.eq_ofNat_of_zero_le b.1
  refine ⟨⟨e0, e1, e2, e3, n⟩, ⟨k0, k1, k2, k3⟩, ?_⟩
  have h4 : r.drop 44 = [.i .u8 (n : Int)] := by
    have := List.drop_eq_getElem_cons (l := r) (i := 44) (by omega)
    rw [this, List.drop_eq_nil_of_le (by omega)]
    rw [List.getElem?_eq_getElem (by omega)] at hd
    rw [Option.some.inj hd]
  show r = e0.ds ++ (e1.ds ++ (e2.ds ++ (e3.ds ++ [.i .u8 (n : Int)])))
  rw [← h0, ← h1, ← h2, ← h3, ← h4]
  have s3 : (r.drop 33).take 11 ++ r.drop 44 = r.drop 33 := by
    have := List.take_append_drop 11 (r.drop 33)
    rwa [List.drop_drop] at this
  have s2 : (r.drop 22).take 11 ++ r.drop 33 = r.drop 22 := by
    have := List.take_append_drop 11 (r.drop 22)
    rwa [List.drop_drop] at this
  have s1 : (r.drop 11).take 11 ++ r.drop 22 = r.drop 11 := by
    have := List.take_append_drop 11 (r.drop 11)
    rwa [List.drop_drop] at this
  rw [s3, s2, s1, List.drop_zero, List.take_append_drop]
theorem ty_sets {d : D} (h : HasTy (.sl SETR) d) : ∃ ts : List SetD, ts.length ≤ maxLen ∧ (∀ s ∈ ts, s.Ok) ∧ d = .sl 45 (ts.map SetD.ds) := by
  cases h with
  | sl _ xs hm hl h =>
    suffices hs : ∃ ts : List SetD, (∀ e ∈ ts, e.Ok) ∧ xs = ts.map SetD.ds by
      obtain ⟨es, h1, rfl⟩ := hs
      exact ⟨es, by simpa using hm, h1, rfl⟩
    clear hm
    induction xs with
    | nil => exact ⟨[], by simp, rfl⟩
    | cons r xs ih =>
      obtain ⟨es, h1, h2⟩ := ih (fun r hr => hl r (List.mem_cons_of_mem _ hr)) (fun i j r t d hi => h (i + 1) j r t d (by simpa using hi))
      obtain ⟨e, he, rfl⟩ := set_of (hl r (List.mem_cons_self ..)) (fun j t d ht hd => h 0 j r t d (by simp) ht hd)
      exact ⟨e :: es, fun x hx => by rcases List.mem_cons.1 hx with rfl | hx; exact he; exact h1 x hx, by simp [h2]⟩
end Go.Proofs.YtobdkhjaipoliaaGreatDoor.Sx
