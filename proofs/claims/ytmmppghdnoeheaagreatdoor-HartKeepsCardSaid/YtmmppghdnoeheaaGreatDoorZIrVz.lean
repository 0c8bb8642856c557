/-
  IRs of functions, printed by a program of mine (wip/tools/mkir.py, ev.run.lean); each is checked by the kernel against the executor.
-/
import Derived.Test.YtmmppghdnoeheaaGreatDoorZBf
import Derived.Test.YtmmppghdnoeheaaGreatDoorProg
namespace Go.Proofs.YtmmppghdnoeheaaGreatDoor.Sx
open Go
set_option maxRecDepth 100000
noncomputable def envIrVz : Env := { P := Tryz.prog, G := gAll, inl := [], unr := [], ded := true }
def hart_Right_ir : IR :=
  (.call 37 [(true, [(.v 0)])] [(false, 1)]
  (.ite (.v 8)
  (.call 38 [(true, [(.v 1), (.v 2), (.v 3)])] [(false, 1)]
  (.ite (.v 9)
  (.lt (.bin .eql (.v 4) (.c (.i .i64 0))) (.ite (.v 10)
  (.ret [(false, [(.c (.b true))])])
  (.lt (.bin .eql (.v 4) (.c (.i .i64 1))) (.ret [(false, [(.v 11)])]))))
  (.ret [(false, [(.c (.b false))])])))
  (.ret [(false, [(.c (.b false))])])))
theorem hart_Right_c : compile envIrVz 3000 16 = .ok hart_Right_ir := by kernel_rfl
theorem hart_Right_p : paramShape Tryz.prog 16 = some [(true, 8)] := by kernel_rfl
def satp_May_ir : IR :=
  (.call 49 [(true, [(.v 0), (.v 1), (.v 2)])] [(false, 1)]
  (.lt (.un .not (.v 3)) (.ite (.v 4)
  (.lt (.ite (.eqt false (.v 0) (.c (.i .u64 0))) (.ite (.eqt false (.v 1) (.c (.i .u64 0))) (.ite (.eqt false (.v 2) (.c (.i .u64 0))) (.c (.b true)) (.c (.b false))) (.c (.b false))) (.c (.b false))) (.ret [(false, [(.v 5)])]))
  (.call 73 [(false, [(.v 2)]), (false, [(.c (.i .i64 0))]), (false, [(.c (.i .i64 44))])] [(false, 1)]
  (.lt (.bin .eql (.v 5) (.v 2)) (.ite (.v 6)
  (.call 73 [(false, [(.v 1)]), (false, [(.c (.i .i64 0))]), (false, [(.c (.i .i64 16))])] [(false, 1)]
  (.lt (.bin .eql (.v 7) (.v 1)) (.ret [(false, [(.v 8)])])))
  (.ret [(false, [(.c (.b false))])])))))))
theorem satp_May_c : compile envIrVz 3000 38 = .ok satp_May_ir := by kernel_rfl
theorem satp_May_p : paramShape Tryz.prog 38 = some [(true, 3)] := by kernel_rfl
end Go.Proofs.YtmmppghdnoeheaaGreatDoor.Sx
