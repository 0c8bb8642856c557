/-
  Facts of the whole program that every row's closing asks, each proved once.
-/
import Derived.Test.YtlihbielphcgbaaGreatDoorRows
import Derived.JoinedCond
import Derived.KernelRfl
namespace Go.Proofs.YtlihbielphcgbaaGreatDoor.Sx
open Go
theorem fact_mayEnter : Tryz.prog.mayEnter = true := by kernel_rfl
theorem fact_lifts : Tryz.prog.liftsFinal = ({ program := "", sum := "", func := "", spec := "" } : OpenClaim).lifted := by kernel_rfl
theorem fact_make : Tryz.prog.make = some (({ program := "", sum := "", func := "", spec := "" } : OpenClaim).make) := by kernel_rfl
theorem fact_laidOut : laidOutB Tryz.prog = true := by kernel_rfl
theorem and_t {a b : Bool} (ha : a = true) (hb : b = true) : (a && b) = true := by rw [ha, hb]; rfl
end Go.Proofs.YtlihbielphcgbaaGreatDoor.Sx
