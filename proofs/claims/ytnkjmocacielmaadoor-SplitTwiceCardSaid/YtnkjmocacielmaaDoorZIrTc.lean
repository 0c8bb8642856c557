/-
 IRs of functions, printed by a program of mine (wip/tools/mkir.py, ev.run.lean); each is checked by the kernel against the executor.
-/
import Derived.Test.YtnkjmocacielmaaDoorZIrTb
import Derived.Test.YtnkjmocacielmaaDoorProg
namespace Go.Proofs.YtnkjmocacielmaaDoor.Sx
open Go
set_option maxRecDepth 100000
end Go.Proofs.YtnkjmocacielmaaDoor.Sx
