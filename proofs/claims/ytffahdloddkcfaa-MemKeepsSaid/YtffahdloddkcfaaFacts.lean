/-
  Facts of the whole program that every row's closing asks, each proved once.
-/
import Derived.Test.YtffahdloddkcfaaRows
import Derived.JoinedCond
import Derived.KernelRfl
namespace Go.Proofs.Ytffahdloddkcfaa.Sx
open Go
theorem fact_mayEnter : Try.prog.mayEnter = true := by kernel_rfl
theorem fact_lifts : Try.prog.liftsFinal = ({ program := "", sum := "", func := "", spec := "" } : OpenClaim).lifted := by kernel_rfl
theorem fact_make : Try.prog.make = some (({ program := "", sum := "", func := "", spec := "" } : OpenClaim).make) := by kernel_rfl
theorem fact_laidOut : laidOutB Try.prog = true := by kernel_rfl
theorem and_t {a b : Bool} (ha : a = true) (hb : b = true) : (a && b) = true := by rw [ha, hb]; rfl
end Go.Proofs.Ytffahdloddkcfaa.Sx
