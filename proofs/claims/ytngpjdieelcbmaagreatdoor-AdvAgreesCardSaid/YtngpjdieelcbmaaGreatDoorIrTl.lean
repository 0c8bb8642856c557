/-
  IRs of functions, printed by a program of mine (wip/tools/mkir.py, ev.run.lean); each is checked by the kernel against the executor.
-/
import Derived.Test.YtngpjdieelcbmaaGreatDoorBf
import Derived.Test.YtngpjdieelcbmaaGreatDoorProg
namespace Go.Proofs.YtngpjdieelcbmaaGreatDoor.Sx
open Go
set_option maxRecDepth 100000
noncomputable def envIrTl : Env := { P := Tryz.prog, G := gAll, inl := [], unr := [], jn := List.range 400 }
noncomputable def envIrTla : Env := { P := Tryz.prog, G := gAll, inl := [], unr := [] }
def TIrTl : Tbl :=
  []
theorem TIrTl_ok : ∀ x ∈ TIrTl, Known gAll x.1 x.2 :=
  fun _ h => nomatch h
end Go.Proofs.YtngpjdieelcbmaaGreatDoor.Sx
