/-
  IRs of functions, printed by a program of mine (wip/tools/mkir.py, ev.run.lean); each is checked by the kernel against the executor.
-/
import Derived.Test.YtnlilhpkjlodjaaDoorYBf
import Derived.Test.YtnlilhpkjlodjaaDoorProg
namespace Go.Proofs.YtnlilhpkjlodjaaDoor.Sx
open Go
set_option maxRecDepth 100000
def TIrS : Tbl :=
  []
theorem TIrS_ok : ∀ x ∈ TIrS, Known gAll x.1 x.2 :=
  fun _ h => nomatch h
end Go.Proofs.YtnlilhpkjlodjaaDoor.Sx
