/-
  Arguments: fences: what a law is handed.
-/
import Derived.Test.YtlihbielphcgbaaGreatDoorCof
import Derived.Test.YtlihbielphcgbaaGreatDoorBg
import Derived.OpenShut
namespace Go.Proofs.YtlihbielphcgbaaGreatDoor.Sx
open Go
set_option linter.unusedVariables false
set_option maxRecDepth 100000

def FELT : List LT := [.b, .i .u64, .b, .i .u64]
theorem fe_of {r : List D} (hl : r.length = 4) (h : ∀ (j : Nat) (t : LT) (d : D), FELT[j]? = some t → r[j]? = some d → HasTy t d) : ∃ f : FeD, r = f.ds := by
  match r, hl with
  | [d0, d1, d2, d3], _ =>
    obtain ⟨x0, rfl⟩ := ty_b (h 0 .b d0 rfl rfl)
    obtain ⟨x1, _, rfl⟩ := ty_i (h 1 (.i .u64) d1 rfl rfl)
    obtain ⟨x2, rfl⟩ := ty_b (h 2 .b d2 rfl rfl)
    obtain ⟨x3, _, rfl⟩ := ty_i (h 3 (.i .u64) d3 rfl rfl)
    exact ⟨⟨x0, x1, x2, x3⟩, rfl⟩
theorem ty_fes {d : D} (h : HasTy (.sl FELT) d) : ∃ l : List FeD, l.length ≤ maxLen ∧ d = .sl 4 (l.map FeD.ds) := by
  cases h with
  | sl _ xs hm hl h =>
    suffices hs : ∃ l : List FeD, xs = l.map FeD.ds by
      obtain ⟨l, rfl⟩ := hs
      exact ⟨l, by simpa using hm, rfl⟩
    clear hm
    induction xs with
    | nil => exact ⟨[], rfl⟩
    | cons r xs ih =>
      obtain ⟨l, h2⟩ := ih (fun r hr => hl r (List.mem_cons_of_mem _ hr)) (fun i j r t d hi => h (i + 1) j r t d (by simpa using hi))
      obtain ⟨f, rfl⟩ := fe_of (hl r (List.mem_cons_self ..)) (fun j t d ht hd => h 0 j r t d (by simp) ht hd)
      exact ⟨f :: l, by simp [h2]⟩
theorem arg_fes {v : DV} (h : IsArg (false, [.sl FELT]) v) : ∃ l : List FeD, l.length ≤ maxLen ∧ v = (false, [.sl 4 (l.map FeD.ds)]) := by
  obtain ⟨g, ds⟩ := v
  obtain ⟨rfl, h⟩ := h
  obtain ⟨d, r, rfl, h0, h⟩ := cons_inv h
  obtain rfl := nil_inv h
  obtain ⟨l, h1, rfl⟩ := ty_fes h0
  exact ⟨l, h1, rfl⟩
end Go.Proofs.YtlihbielphcgbaaGreatDoor.Sx
