/-
  Layer 19: TableFrames.
-/
import Derived.Test.YtnlilhpkjlodjaaDoorYTaba
namespace Go.Proofs.YtnlilhpkjlodjaaDoor.Sx
open Go
set_option linter.unusedVariables false
set_option linter.unusedSimpArgs false
set_option maxRecDepth 100000
end Go.Proofs.YtnlilhpkjlodjaaDoor.Sx
