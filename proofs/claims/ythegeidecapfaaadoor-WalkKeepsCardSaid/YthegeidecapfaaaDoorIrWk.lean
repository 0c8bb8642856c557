/-
  IRs of functions, printed by a program of mine (wip/tools/mkir.py, ev.run.lean); each is checked by the kernel against the executor.
-/
import Derived.Test.YthegeidecapfaaaDoorBf
import Derived.Test.YthegeidecapfaaaDoorProg
namespace Go.Proofs.YthegeidecapfaaaDoor.Sx
open Go
set_option maxRecDepth 100000
noncomputable def envIrWk : Env := { P := Tryd.prog, G := gAll, inl := [], unr := [], ded := true }
/-- atlas/atlaslaw10.WalkKeeps -/
def atlaslaw10_WalkKeeps_ir : IR :=
  (.call 9 [] [(false, 1)]
  (.lt (.un .not (.v 8)) (.ite (.v 9)
  (.call 9 [] [(false, 1)]
  (.ret [(false, [(.v 10)])]))
  (.call 10 [(true, [(.v 0), (.v 1)]), (false, [(.v 2)])] [(false, 1)]
  (.lt (.un .not (.v 10)) (.ite (.v 11)
  (.call 9 [] [(false, 1)]
  (.ret [(false, [(.v 12)])]))
  (.call 15 [(true, (vr 4 4))] [(false, 1)]
  (.lt (.un .not (.v 12)) (.ite (.v 13)
  (.call 9 [] [(false, 1)]
  (.ret [(false, [(.v 14)])]))
  (.chk (.room (.len (.app 2 (.c (.sl 2 [])) (.v 1))) 17) (.lt (.app 2 (.c (.sl 2 [])) (.v 1)) (.call 16 [(true, [(.v 0), (.v 14)]), (false, [(.v 2)]), (false, [(.v 3)]), (true, (vr 4 4))] [(true, 2), (true, 13), (true, 3)]
  (.call 18 [(true, [(.v 0), (.v 14)]), (true, [(.v 0), (.v 1)])] [(false, 1)]
  (.ret [(false, [(.v 33)])]))))))))))))))
theorem atlaslaw10_WalkKeeps_c : compile envIrWk 3000 7 = .ok atlaslaw10_WalkKeeps_ir := by kernel_rfl
theorem atlaslaw10_WalkKeeps_p : paramShape Tryd.prog 7 = some [(true, 2), (false, 1), (false, 1), (true, 4)] := by kernel_rfl
theorem atlaslaw10_WalkKeeps_k : Known gAll 7 (.ir [(true, 2), (false, 1), (false, 1), (true, 4)] atlaslaw10_WalkKeeps_ir) := known_ir (E := envIrWk) (n := 3000) rfl rfl atlaslaw10_WalkKeeps_c atlaslaw10_WalkKeeps_p
def TIrWk : Tbl :=
  []
theorem TIrWk_ok : ∀ x ∈ TIrWk, Known gAll x.1 x.2 :=
  fun _ h => nomatch h
end Go.Proofs.YthegeidecapfaaaDoor.Sx
