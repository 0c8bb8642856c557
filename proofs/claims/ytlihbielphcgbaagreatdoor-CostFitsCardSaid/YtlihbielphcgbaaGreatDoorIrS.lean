/-
  IRs of functions, printed by a program of mine (wip/tools/mkir.py, ev.run.lean); each is checked by the kernel against the executor.
-/
import Derived.Test.YtlihbielphcgbaaGreatDoorBf
import Derived.Test.YtlihbielphcgbaaGreatDoorProg
namespace Go.Proofs.YtlihbielphcgbaaGreatDoor.Sx
open Go
set_option maxRecDepth 100000
def inlenvIrS : List FuncId :=
  []
def unrenvIrS : List FuncId :=
  []
noncomputable def envIrS : Env := { P := Tryz.prog, G := gAll, inl := inlenvIrS, unr := unrenvIrS }
def TIrS : Tbl :=
  []
theorem TIrS_ok : ∀ x ∈ TIrS, Known gAll x.1 x.2 :=
  fun _ h => nomatch h
end Go.Proofs.YtlihbielphcgbaaGreatDoor.Sx
