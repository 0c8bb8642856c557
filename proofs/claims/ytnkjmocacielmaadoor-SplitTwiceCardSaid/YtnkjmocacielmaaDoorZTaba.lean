/-
 Layer 19: the anchor.
-/
import Derived.Test.YtnkjmocacielmaaDoorZTabg
namespace Go.Proofs.YtnkjmocacielmaaDoor.Sx
open Go
set_option linter.unusedVariables false
set_option linter.unusedSimpArgs false
set_option maxRecDepth 100000
end Go.Proofs.YtnkjmocacielmaaDoor.Sx
