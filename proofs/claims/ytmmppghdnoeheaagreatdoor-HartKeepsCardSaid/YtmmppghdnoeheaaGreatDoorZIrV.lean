/-
  IRs of functions, printed by a program of mine (wip/tools/mkir.py, ev.run.lean); each is checked by the kernel against the executor.
-/
import Derived.Test.YtmmppghdnoeheaaGreatDoorZBf
import Derived.Test.YtmmppghdnoeheaaGreatDoorProg
namespace Go.Proofs.YtmmppghdnoeheaaGreatDoor.Sx
open Go
set_option maxRecDepth 100000
noncomputable def envIrV : Env := { P := Tryz.prog, G := gAll, inl := [], unr := [], ded := true }
def atlasref16_Same_ir : IR :=
  (.call 39 [(true, [(.v 0)]), (true, [(.v 8)])] [(false, 1)]
  (.ite (.v 16)
  (.lt (.ite (.eqt false (.v 1) (.v 9)) (.ite (.eqt false (.v 2) (.v 10)) (.ite (.eqt false (.v 3) (.v 11)) (.c (.b true)) (.c (.b false))) (.c (.b false))) (.c (.b false))) (.ite (.v 17)
  (.lt (.bin .eql (.v 4) (.v 12)) (.ite (.v 18)
  (.lt (.eqt true (.v 5) (.v 13)) (.ite (.v 19)
  (.lt (.eqt true (.v 6) (.v 14)) (.ite (.v 20)
  (.lt (.bin .eql (.v 7) (.v 15)) (.ret [(false, [(.v 21)])]))
  (.ret [(false, [(.c (.b false))])])))
  (.ret [(false, [(.c (.b false))])])))
  (.ret [(false, [(.c (.b false))])])))
  (.ret [(false, [(.c (.b false))])])))
  (.ret [(false, [(.c (.b false))])])))
theorem atlasref16_Same_c : compile envIrV 3000 18 = .ok atlasref16_Same_ir := by kernel_rfl
theorem atlasref16_Same_p : paramShape Tryz.prog 18 = some [(true, 8), (true, 8)] := by kernel_rfl
def atlasref16_Right_ir : IR :=
  (.call 42 [(true, [(.v 0)])] [(false, 1)]
  (.ite (.v 8)
  (.call 43 [(true, [(.v 1), (.v 2), (.v 3)])] [(false, 1)]
  (.ite (.v 9)
  (.lt (.bin .eql (.v 4) (.c (.i .i64 0))) (.ite (.v 10)
  (.ret [(false, [(.c (.b true))])])
  (.lt (.bin .eql (.v 4) (.c (.i .i64 1))) (.ret [(false, [(.v 11)])]))))
  (.ret [(false, [(.c (.b false))])])))
  (.ret [(false, [(.c (.b false))])])))
theorem atlasref16_Right_c : compile envIrV 3000 23 = .ok atlasref16_Right_ir := by kernel_rfl
theorem atlasref16_Right_p : paramShape Tryz.prog 23 = some [(true, 8)] := by kernel_rfl
def satp_On_ir : IR :=
  (.lt (.bin .eql (.v 0) (.c (.i .u64 8))) (.ret [(false, [(.v 3)])]))
theorem satp_On_c : compile envIrV 3000 49 = .ok satp_On_ir := by kernel_rfl
theorem satp_On_p : paramShape Tryz.prog 49 = some [(true, 3)] := by kernel_rfl
def atlasref07_May_ir : IR :=
  (.lt (.bin .eql (.v 0) (.c (.i .u64 0))) (.ite (.v 3)
  (.lt (.bin .eql (.v 1) (.c (.i .u64 0))) (.ite (.v 4)
  (.lt (.bin .eql (.v 2) (.c (.i .u64 0))) (.ret [(false, [(.v 5)])]))
  (.ret [(false, [(.c (.b false))])])))
  (.lt (.bin .eql (.v 0) (.c (.i .u64 8))) (.ite (.v 4)
  (.lt (.bin .lss (.v 1) (.c (.i .u64 65536))) (.ite (.v 5)
  (.lt (.bin .lss (.v 2) (.c (.i .u64 17592186044416))) (.ret [(false, [(.v 6)])]))
  (.ret [(false, [(.c (.b false))])])))
  (.ret [(false, [(.c (.b false))])])))))
theorem atlasref07_May_c : compile envIrV 3000 43 = .ok atlasref07_May_ir := by kernel_rfl
theorem atlasref07_May_p : paramShape Tryz.prog 43 = some [(true, 3)] := by kernel_rfl
end Go.Proofs.YtmmppghdnoeheaaGreatDoor.Sx
