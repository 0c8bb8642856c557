/-
  IRs of functions, printed by a program of mine (wip/tools/mkir.py, ev.run.lean); each is checked by the kernel against the executor.
-/
import Derived.Test.YtnlilhpkjlodjaaDoorYIrTb
import Derived.Test.YtnlilhpkjlodjaaDoorProg
namespace Go.Proofs.YtnlilhpkjlodjaaDoor.Sx
open Go
set_option maxRecDepth 100000
def nwenvIrTc : List (FuncId × Nat) :=
  (21, 0) ::
  []
noncomputable def envIrTc : Env := { P := Tryd.prog, G := gAll, inl := [], unr := [], ded := true, nw := nwenvIrTc }
def atlaslaw19_TableKeeps_ir : IR :=
  (.call 8 [] [(false, 1)]
  (.lt (.un .not (.v 16)) (.ite (.v 17)
  (.call 8 [] [(false, 1)]
  (.ret [(false, [(.v 18)])]))
  (.call 19 [(true, [(.v 0), (.v 1)]), (false, [(.v 2)]), (false, [(.v 3)])] [(false, 1)]
  (.lt (.un .not (.v 18)) (.ite (.v 19)
  (.call 8 [] [(false, 1)]
  (.ret [(false, [(.v 20)])]))
  (.call 20 [(false, [(.v 4)])] [(false, 1)]
  (.lt (.un .not (.v 20)) (.ite (.v 21)
  (.call 8 [] [(false, 1)]
  (.ret [(false, [(.v 22)])]))
  (.call 27 [(true, (vr 5 11))] [(false, 1)]
  (.lt (.un .not (.v 22)) (.ite (.v 23)
  (.call 8 [] [(false, 1)]
  (.ret [(false, [(.v 24)])]))
  (.chk (.room (.len (.app 2 (.c (.sl 2 [])) (.v 1))) 17) (.lt (.app 2 (.c (.sl 2 [])) (.v 1)) (.call 32 [(true, [(.v 0), (.v 24)]), (false, [(.v 2)]), (false, [(.v 3)]), (false, [(.v 4)]), (false, [(.c (.i .i64 0))])] [(true, 13)]
  (.call 30 [(true, [(.v 0), (.v 24)]), (true, (vr 25 13)), (false, [(.v 4)]), (true, (vr 5 11))] [(true, 2)]
  (.call (nwOff + 21) [(true, [(.v 0), (.v 24)]), (false, [(.v 2)]), (false, [(.v 3)]), (false, [(.c (.i .u64 0))])] [(false, 1)]
  (.chk (.room (.len (.v 40)) 0) (.loop [(.c (.i .i64 0)), (.v 40)]
  (.lt (.bin .lss (.v 41) (.len (.v 42))) (.ite (.v 43)
  (.chk (.inb (.v 42) (.v 41) 8) (.chk (.inb (.v 42) (.v 41) 8) (.lt (.bin .add (.v 41) (.c (.i .i64 1))) (.cont 0 [(.v 44), (.put (.v 42) (.v 41) 0 [(.c (.i .u64 0)), (.c (.i .u64 0)), (.c (.i .i64 0)), (.c (.b false)), (.c (.b false)), (.c (.b false)), (.c (.b false)), (.c (.b false))])]))))
  (.lt (.bin .quo (.v 0) (.c (.i .u64 4096))) (.lt (.bin .rem (.v 44) (.c (.i .u64 2))) (.lt (.cv .i64 (.v 45)) (.lt (.bin .quo (.v 0) (.c (.i .u64 4096))) (.lt (.bin .rem (.v 47) (.c (.i .u64 2))) (.call 12 [(true, [(.v 0), (.v 24)]), (true, [(.c (.i .u64 0)), (.v 46), (.v 48)])] [(true, 2), (true, 3), (false, 1), (false, 1)]
  (.call 14 [(true, [(.v 0), (.v 24)]), (true, [(.v 0), (.v 1)])] [(false, 1)]
  (.ite (.v 56)
  (.call 21 [(true, [(.v 0), (.v 24)]), (false, [(.v 2)]), (false, [(.v 3)]), (false, [(.c (.i .u64 0))])] [(false, 1)]
  (.call 34 [(true, [(.v 0), (.v 1)]), (false, [(.v 2)]), (false, [(.v 3)]), (false, [(.c (.i .u64 0))])] [(false, 1)]
  (.call 33 [(false, [(.v 57)]), (false, [(.v 58)])] [(false, 1)]
  (.ret [(false, [(.v 59)])]))))
  (.ret [(false, [(.c (.b false))])]))))))))))))))))))))))))))))))
theorem atlaslaw19_TableKeeps_c : compile envIrTc 3000 6 = .ok atlaslaw19_TableKeeps_ir := by kernel_rfl
theorem atlaslaw19_TableKeeps_p : paramShape Tryd.prog 6 = some [(true, 2), (false, 1), (false, 1), (false, 1), (true, 11)] := by kernel_rfl
end Go.Proofs.YtnlilhpkjlodjaaDoor.Sx
