/-
 IRs of functions, printed by a program of mine (wip/tools/mkir.py, ev.run.lean); each is checked by the kernel against the executor.
-/
import Derived.Test.YtnkjmocacielmaaDoorZBf
import Derived.Test.YtnkjmocacielmaaDoorProg
namespace Go.Proofs.YtnkjmocacielmaaDoor.Sx
open Go
set_option maxRecDepth 100000
def inlenvIrS : List FuncId :=
 []
def unrenvIrS : List FuncId :=
 []
noncomputable def envIrS : Env := { P := Tryd.prog, G := gAll, inl := inlenvIrS, unr := unrenvIrS }
def atlasref12_Pages_ir : IR :=
 (.call 44 [(false, [(.v 0)])] [(false, 1)]
 (.lt (.bin .quo (.v 1) (.c (.i .u64 4096))) (.ret [(false, [(.v 2)])])))
theorem atlasref12_Pages_c : compile envIrS 3000 38 = .ok atlasref12_Pages_ir := by kernel_rfl
theorem atlasref12_Pages_p : paramShape Tryd.prog 38 = some [(false, 1)] := by kernel_rfl
theorem atlasref12_Pages_k : Known gAll 38 (.ir [(false, 1)] atlasref12_Pages_ir) := known_ir (E := envIrS) (n := 3000) rfl rfl atlasref12_Pages_c atlasref12_Pages_p
def TIrS : Tbl :=
 (38, .ir [(false, 1)] atlasref12_Pages_ir) ::
 []
theorem TIrS_ok : ∀ x ∈ TIrS, Known gAll x.1 x.2 :=
 kcons atlasref12_Pages_k <|
 fun _ h => nomatch h
end Go.Proofs.YtnkjmocacielmaaDoor.Sx
