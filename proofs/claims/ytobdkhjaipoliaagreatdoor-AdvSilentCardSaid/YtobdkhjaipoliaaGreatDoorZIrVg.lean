/-
  IRs of functions, printed by a program of mine (wip/tools/mkir.py, ev.run.lean); each is checked by the kernel against the executor.
-/
import Derived.Test.YtobdkhjaipoliaaGreatDoorZBf
import Derived.Test.YtobdkhjaipoliaaGreatDoorProg
namespace Go.Proofs.YtobdkhjaipoliaaGreatDoor.Sx
open Go
set_option maxRecDepth 100000
noncomputable def envIrVg : Env := { P := Tryz.prog, G := gAll, inl := [], unr := [], jn := List.range 400, ded := true }
def atlasref16_Agrees_ir : IR :=
  (.call 13 [(true, [(.v 0)])] [(false, 1)]
  (.loop [(.c (.b false)), (.c (.i .i64 0))]
  (.lt (.len (.v 10)) (.lt (.bin .lss (.v 12) (.v 13)) (.ite (.v 14)
  (.chk (.inb (.v 10) (.v 12) 11) (.jn (.ite (.v 15)
  (.lt (.bin .add (.v 12) (.c (.i .i64 1))) (.cont 0 [(.v 11), (.v 16)]))
  (.call 20 [(false, [(.idx (.v 10) (.v 12) 4)])] [(false, 1)]
  (.call 19 [(true, [(.v 8), (.v 9)]), (false, [(.v 3)]), (false, [(.v 16)]), (false, [(.c (.i .i64 1))])] [(true, 13), (true, 3)]
  (.call 21 [(true, (vr 19 11))] [(true, 4)]
  (.jn (.ite (.v 37)
  (.ret [(false, [(.c (.b false))])])
  (.jn (.ite (.v 38)
  (.ret [(false, [(.c (.b false))])])
  (.lt (.bin .add (.v 12) (.c (.i .i64 1))) (.cont 0 [(.v 11), (.v 39)])))
  (.ite (.idx (.v 10) (.v 12) 6)
  (.lt (.un .not (.v 33)) (.ite (.v 38)
  (.cont 1 [(.c (.b true))])
  (.ite (.idx (.v 10) (.v 12) 7)
  (.lt (.un .not (.v 34)) (.ite (.v 39)
  (.cont 1 [(.c (.b true))])
  (.ite (.idx (.v 10) (.v 12) 8)
  (.lt (.un .not (.v 35)) (.cont 1 [(.v 40)]))
  (.cont 1 [(.c (.b false))]))))
  (.ite (.idx (.v 10) (.v 12) 8)
  (.lt (.un .not (.v 35)) (.cont 1 [(.v 39)]))
  (.cont 1 [(.c (.b false))])))))
  (.ite (.idx (.v 10) (.v 12) 7)
  (.lt (.un .not (.v 34)) (.ite (.v 38)
  (.cont 1 [(.c (.b true))])
  (.ite (.idx (.v 10) (.v 12) 8)
  (.lt (.un .not (.v 35)) (.cont 1 [(.v 39)]))
  (.cont 1 [(.c (.b false))]))))
  (.ite (.idx (.v 10) (.v 12) 8)
  (.lt (.un .not (.v 35)) (.cont 1 [(.v 38)]))
  (.cont 1 [(.c (.b false))]))))))
  (.ite (.v 30)
  (.cont 1 [(.c (.b true))])
  (.lt (.bin .neq (.v 17) (.idx (.v 10) (.v 12) 3)) (.ite (.v 37)
  (.cont 1 [(.c (.b true))])
  (.lt (.bin .neq (.v 28) (.idx (.v 10) (.v 12) 5)) (.ite (.v 38)
  (.cont 1 [(.c (.b true))])
  (.lt (.un .not (.v 25)) (.ite (.v 39)
  (.cont 1 [(.c (.b true))])
  (.ite (.idx (.v 10) (.v 12) 10)
  (.lt (.un .not (.v 26)) (.ite (.v 40)
  (.cont 1 [(.c (.b true))])
  (.lt (.un .not (.eqt true (.v 36) (.idx (.v 10) (.v 12) 9))) (.cont 1 [(.v 41)]))))
  (.lt (.un .not (.eqt true (.v 36) (.idx (.v 10) (.v 12) 9))) (.cont 1 [(.v 40)])))))))))))))))
  (.lt (.un .not (.idx (.v 10) (.v 12) 2)) (.ite (.v 15)
  (.lt (.bin .neq (.idx (.v 10) (.v 12) 1) (.v 2)) (.cont 1 [(.v 16)]))
  (.cont 1 [(.c (.b false))])))))
  (.ret [(false, [(.c (.b true))])]))))))
theorem atlasref16_Agrees_c : compile envIrVg 3000 6 = .ok atlasref16_Agrees_ir := by kernel_rfl
theorem atlasref16_Agrees_p : paramShape Tryz.prog 6 = some [(true, 8), (true, 2)] := by kernel_rfl
end Go.Proofs.YtobdkhjaipoliaaGreatDoor.Sx
