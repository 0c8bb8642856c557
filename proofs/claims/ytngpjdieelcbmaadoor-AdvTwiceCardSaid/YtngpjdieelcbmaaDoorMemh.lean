/-
  Layer 2 and 3: the reference's bytes, its loading and storing: contracts.
-/
import Derived.Test.YtngpjdieelcbmaaDoorMemg
namespace Go.Proofs.YtngpjdieelcbmaaDoor.Sx
open Go
set_option linter.unusedVariables false
set_option linter.unusedSimpArgs false
set_option maxRecDepth 100000

abbrev byt (b : Nat) : List D := [.i .u8 (b : Int)]
abbrev bys (l : List Nat) : List (List D) := l.map byt
theorem bys_len {l : List Nat} : (bys l).length = l.length := List.length_map ..
theorem bys_get {l : List Nat} {j b : Nat} (h : l[j]? = some b) : (bys l)[j]? = some (byt b) := by rw [List.getElem?_map, h]; rfl
theorem cv_u8 {ρ : List D} {x : Ex} {k : IntKind} {n : Nat} (hx : x.eval ρ = some (.i k (n : Int))) (h : n < 256) : (Ex.cv .u8 x).eval ρ = some (.i .u8 (n : Int)) := by
  have : IntKind.u8.wrap (n : Int) = (n : Int) := by
    show (n : Int) % 256 = n
    omega
  simp [Ex.eval, hx, this]
/-- a byte more -/
theorem by_more {ρ : List D} {x y : Ex} {k v j : Nat} (hx : x.eval ρ = some (.sl k (bys (putB v j)))) (hy : y.eval ρ = some (.i .u8 ((v / 256 ^ j % 256 : Nat) : Int))) (hk : k = 1 ∨ (k = 0 ∧ j = 0)) : (Ex.app 1 x (.one [y])).eval ρ = some (.sl 1 (bys (putB v (j + 1)))) := by
  rw [putB_end, bys, List.map_append]
  exact app_e hx (one_e (evs_one hy) rfl) (by rcases hk with h | ⟨h, rfl⟩; exact .inl h; exact .inr ⟨h, rfl⟩) (by simp)
theorem putB_small {v n : Nat} : ∀ x ∈ putB v n, x < 256 := by
  intro x hx
  simp only [putB, List.mem_map] at hx
  obtain ⟨_, _, rfl⟩ := hx
  exact Nat.mod_lt _ (by decide)
def pickN (q : Nat) : Nat := match q % 4 with | 0 => 1 | 1 => 2 | 2 => 4 | _ => 8
theorem pick_or (q : Nat) : pickN q = 1 ∨ pickN q = 2 ∨ pickN q = 4 ∨ pickN q = 8 := by
  unfold pickN
  have : q % 4 < 4 := Nat.mod_lt _ (by decide)
  generalize q % 4 = r at this
  rcases r with _ | _ | _ | _ | r <;> simp

theorem wrong_0 {s a : Nat} {z : Int} (h : wrongN s a z = 0) : ∃ n : Nat, z = n ∧ sizeOk n = true ∧ (n = 1 ∨ n = 2 ∨ n = 4 ∨ n = 8) ∧ a % n = 0 ∧ a < s := by
  unfold wrongN at h
  split at h
  · rename_i hz
    have hz' := sizeOk_iff.1 hz
    obtain ⟨n, rfl⟩ : ∃ n : Nat, z = (n : Int) := ⟨z.toNat, by omega⟩
    rw [Int.toNat_natCast] at h
    split at h
    · split at h
      · cases h
      · exact ⟨n, rfl, hz, by omega, by assumption, by omega⟩
    · cases h
  · cases h
theorem size_fits {a n : Nat} (hn : n = 1 ∨ n = 2 ∨ n = 4 ∨ n = 8) (ha : a % n = 0) : a % 8 + n ≤ 8 := by
  rcases hn with rfl | rfl | rfl | rfl <;> omega
end Go.Proofs.YtngpjdieelcbmaaDoor.Sx
