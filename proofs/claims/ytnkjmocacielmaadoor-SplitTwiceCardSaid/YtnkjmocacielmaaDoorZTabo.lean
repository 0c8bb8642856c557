/-
 Layer 19: TableOnes.
-/
import Derived.Test.YtnkjmocacielmaaDoorZTabx
namespace Go.Proofs.YtnkjmocacielmaaDoor.Sx
open Go
set_option linter.unusedVariables false
set_option linter.unusedSimpArgs false
set_option maxRecDepth 100000
theorem refMake_con {n : Nat} {r w x u g : Bool} : Cn gAll 24 [Sx.u n, (true, [.b r, .b w, .b x, .b u]), bb g] [(⟨true, r, w, x, u, g, false, false, 0, n, 0⟩ : Pt).dv] := by
 refine con rfl rfl atlasref06_Make_c atlasref06_Make_p rfl ?_
 unfold atlasref06_Make_ir
 exact wp_return rfl rfl
end Go.Proofs.YtnkjmocacielmaaDoor.Sx
