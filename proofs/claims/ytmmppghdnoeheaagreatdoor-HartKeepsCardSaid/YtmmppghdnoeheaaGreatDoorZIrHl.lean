/-
  IRs of functions, printed by a program of mine (wip/tools/mkir.py, ev.run.lean); each is checked by the kernel against the executor.
-/
import Derived.Test.YtmmppghdnoeheaaGreatDoorZBf
import Derived.Test.YtmmppghdnoeheaaGreatDoorProg
namespace Go.Proofs.YtmmppghdnoeheaaGreatDoor.Sx
open Go
set_option maxRecDepth 100000
noncomputable def envIrHl : Env := { P := Tryz.prog, G := gAll, inl := [], unr := [], ded := true }
def atlaslaw16_HartFlat_ir : IR :=
  (.call 8 [] [(false, 1)]
  (.lt (.un .not (.v 14)) (.ite (.v 15)
  (.call 8 [] [(false, 1)]
  (.ret [(false, [(.v 16)])]))
  (.call 9 [(true, (vr 0 8)), (true, [(.v 8), (.v 9)])] [(false, 1)]
  (.lt (.un .not (.v 16)) (.ite (.v 17)
  (.call 8 [] [(false, 1)]
  (.ret [(false, [(.v 18)])]))
  (.lt (.bin .eql (.v 1) (.c (.i .u64 0))) (.ite (.v 18)
  (.call 8 [] [(false, 1)]
  (.ret [(false, [(.v 19)])]))
  (.call 10 [(true, (vr 0 8)), (true, [(.v 8), (.v 9)])] [(false, 1)]
  (.lt (.un .not (.v 19)) (.ite (.v 20)
  (.call 8 [] [(false, 1)]
  (.ret [(false, [(.v 21)])]))
  (.lt (.bin .rem (.v 10) (.c (.i .u8 3))) (.lt (.cv .i64 (.v 21)) (.call 11 [(false, [(.v 12)])] [(false, 1)]
  (.call 12 [(true, (vr 0 8)), (true, [(.v 8), (.v 9)]), (false, [(.v 22)]), (false, [(.v 11)]), (false, [(.v 23)]), (false, [(.v 13)])] [(true, 8), (true, 2), (true, 4)]
  (.call 13 [(true, (vr 0 8))] [(true, 8)]
  (.call 12 [(true, (vr 38 8)), (true, [(.v 8), (.v 9)]), (false, [(.v 22)]), (false, [(.v 11)]), (false, [(.v 23)]), (false, [(.v 13)])] [(true, 8), (true, 2), (true, 4)]
  (.lt (.ite (.eqt false (.v 34) (.v 56)) (.ite (.eqt true (.v 35) (.v 57)) (.ite (.eqt false (.v 36) (.v 58)) (.ite (.eqt false (.v 37) (.v 59)) (.c (.b true)) (.c (.b false))) (.c (.b false))) (.c (.b false))) (.c (.b false))) (.ite (.v 60)
  (.call 14 [(true, [(.v 32), (.v 33)]), (true, [(.v 54), (.v 55)])] [(false, 1)]
  (.ite (.v 61)
  (.lt (.bin .eql (.v 22) (.c (.i .i64 2))) (.ite (.v 62)
  (.ret [(false, [(.c (.b true))])])
  (.call 15 [(true, (vr 24 8)), (true, [(.v 32), (.v 33)])] [(false, 1)]
  (.ite (.v 63)
  (.call 10 [(true, (vr 24 8)), (true, [(.v 32), (.v 33)])] [(false, 1)]
  (.ret [(false, [(.v 64)])]))
  (.ret [(false, [(.c (.b false))])])))))
  (.ret [(false, [(.c (.b false))])])))
  (.ret [(false, [(.c (.b false))])]))))))))))))))))))))
theorem atlaslaw16_HartFlat_c : compile envIrHl 3000 3 = .ok atlaslaw16_HartFlat_ir := by kernel_rfl
theorem atlaslaw16_HartFlat_p : paramShape Tryz.prog 3 = some [(true, 8), (true, 2), (false, 1), (false, 1), (false, 1), (false, 1)] := by kernel_rfl
def atlaslaw16_HartStays_ir : IR :=
  (.call 8 [] [(false, 1)]
  (.lt (.un .not (.v 14)) (.ite (.v 15)
  (.call 8 [] [(false, 1)]
  (.ret [(false, [(.v 16)])]))
  (.call 9 [(true, (vr 0 8)), (true, [(.v 8), (.v 9)])] [(false, 1)]
  (.lt (.un .not (.v 16)) (.ite (.v 17)
  (.call 8 [] [(false, 1)]
  (.ret [(false, [(.v 18)])]))
  (.lt (.bin .rem (.v 10) (.c (.i .u8 3))) (.lt (.cv .i64 (.v 18)) (.call 11 [(false, [(.v 12)])] [(false, 1)]
  (.call 12 [(true, (vr 0 8)), (true, [(.v 8), (.v 9)]), (false, [(.v 19)]), (false, [(.v 11)]), (false, [(.v 20)]), (false, [(.v 13)])] [(true, 8), (true, 2), (true, 4)]
  (.lt (.un .not (.ite (.eqt false (.v 22) (.v 1)) (.ite (.eqt false (.v 23) (.v 2)) (.ite (.eqt false (.v 24) (.v 3)) (.c (.b true)) (.c (.b false))) (.c (.b false))) (.c (.b false)))) (.ite (.v 35)
  (.ret [(false, [(.c (.b false))])])
  (.lt (.bin .neq (.v 25) (.v 4)) (.ite (.v 36)
  (.ret [(false, [(.c (.b false))])])
  (.lt (.un .not (.eqt true (.v 26) (.v 5))) (.ite (.v 37)
  (.ret [(false, [(.c (.b false))])])
  (.lt (.un .not (.eqt true (.v 27) (.v 6))) (.ite (.v 38)
  (.ret [(false, [(.c (.b false))])])
  (.call 16 [(true, (vr 21 8))] [(false, 1)]
  (.lt (.un .not (.v 39)) (.ite (.v 40)
  (.ret [(false, [(.c (.b false))])])
  (.call 17 [(true, [(.v 29), (.v 30)])] [(false, 1)]
  (.lt (.un .not (.v 41)) (.ite (.v 42)
  (.ret [(false, [(.c (.b false))])])
  (.lt (.bin .neq (.v 29) (.v 8)) (.ite (.v 43)
  (.ret [(false, [(.c (.b false))])])
  (.ite (.v 32)
  (.lt (.bin .eql (.v 33) (.c (.i .i64 1))) (.ite (.v 44)
  (.lt (.bin .eql (.v 31) (.c (.i .u64 0))) (.ite (.v 45)
  (.lt (.bin .eql (.v 34) (.v 11)) (.ite (.v 46)
  (.ret [(false, [(.c (.b true))])])
  (.ret [(false, [(.c (.b false))])])))
  (.ret [(false, [(.c (.b false))])])))
  (.lt (.bin .eql (.v 33) (.c (.i .i64 5))) (.ite (.v 45)
  (.lt (.bin .eql (.v 31) (.c (.i .u64 0))) (.ite (.v 46)
  (.lt (.bin .eql (.v 34) (.v 11)) (.ite (.v 47)
  (.ret [(false, [(.c (.b true))])])
  (.ret [(false, [(.c (.b false))])])))
  (.ret [(false, [(.c (.b false))])])))
  (.lt (.bin .eql (.v 33) (.c (.i .i64 7))) (.lt (.bin .eql (.v 31) (.c (.i .u64 0))) (.ite (.v 47)
  (.lt (.bin .eql (.v 34) (.v 11)) (.ite (.v 48)
  (.ite (.v 46)
  (.ret [(false, [(.c (.b true))])])
  (.call 18 [(true, (vr 21 8)), (true, (vr 0 8))] [(false, 1)]
  (.ite (.v 49)
  (.call 14 [(true, [(.v 29), (.v 30)]), (true, [(.v 8), (.v 9)])] [(false, 1)]
  (.ret [(false, [(.v 50)])]))
  (.ret [(false, [(.c (.b false))])]))))
  (.ret [(false, [(.c (.b false))])])))
  (.ret [(false, [(.c (.b false))])]))))))))
  (.lt (.bin .neq (.v 19) (.c (.i .i64 2))) (.ite (.v 44)
  (.ret [(false, [(.c (.b true))])])
  (.lt (.bin .neq (.v 1) (.c (.i .u64 0))) (.ite (.v 45)
  (.ret [(false, [(.c (.b true))])])
  (.call 12 [(true, (vr 21 8)), (true, [(.v 29), (.v 30)]), (false, [(.c (.i .i64 1))]), (false, [(.v 11)]), (false, [(.v 20)]), (false, [(.c (.i .u64 0))])] [(true, 8), (true, 2), (true, 4)]
  (.call 19 [(false, [(.v 13)]), (false, [(.v 20)])] [(false, 1)]
  (.lt (.ite (.eqt false (.v 56) (.v 60)) (.ite (.eqt true (.v 57) (.c (.b false))) (.ite (.eqt false (.v 58) (.c (.i .i64 0))) (.ite (.eqt false (.v 59) (.c (.i .u64 0))) (.c (.b true)) (.c (.b false))) (.c (.b false))) (.c (.b false))) (.c (.b false))) (.ret [(false, [(.v 61)])])))))))))))))))))))))))))))))))))))
theorem atlaslaw16_HartStays_c : compile envIrHl 3000 4 = .ok atlaslaw16_HartStays_ir := by kernel_rfl
theorem atlaslaw16_HartStays_p : paramShape Tryz.prog 4 = some [(true, 8), (true, 2), (false, 1), (false, 1), (false, 1), (false, 1)] := by kernel_rfl
def atlaslaw16_HartAgain_ir : IR :=
  (.call 8 [] [(false, 1)]
  (.lt (.un .not (.v 13)) (.ite (.v 14)
  (.call 8 [] [(false, 1)]
  (.ret [(false, [(.v 15)])]))
  (.call 9 [(true, (vr 0 8)), (true, [(.v 8), (.v 9)])] [(false, 1)]
  (.lt (.un .not (.v 15)) (.ite (.v 16)
  (.call 8 [] [(false, 1)]
  (.ret [(false, [(.v 17)])]))
  (.lt (.bin .eql (.v 1) (.c (.i .u64 0))) (.ite (.v 17)
  (.call 8 [] [(false, 1)]
  (.ret [(false, [(.v 18)])]))
  (.call 10 [(true, (vr 0 8)), (true, [(.v 8), (.v 9)])] [(false, 1)]
  (.lt (.un .not (.v 18)) (.ite (.v 19)
  (.call 8 [] [(false, 1)]
  (.ret [(false, [(.v 20)])]))
  (.lt (.bin .rem (.v 10) (.c (.i .u8 2))) (.lt (.cv .i64 (.v 20)) (.call 11 [(false, [(.v 12)])] [(false, 1)]
  (.call 12 [(true, (vr 0 8)), (true, [(.v 8), (.v 9)]), (false, [(.v 21)]), (false, [(.v 11)]), (false, [(.v 22)]), (false, [(.c (.i .u64 0))])] [(true, 8), (true, 2), (true, 4)]
  (.call 12 [(true, (vr 23 8)), (true, [(.v 31), (.v 32)]), (false, [(.v 21)]), (false, [(.v 11)]), (false, [(.v 22)]), (false, [(.c (.i .u64 0))])] [(true, 8), (true, 2), (true, 4)]
  (.lt (.un .not (.ite (.eqt false (.v 33) (.v 47)) (.ite (.eqt true (.v 34) (.v 48)) (.ite (.eqt false (.v 35) (.v 49)) (.ite (.eqt false (.v 36) (.v 50)) (.c (.b true)) (.c (.b false))) (.c (.b false))) (.c (.b false))) (.c (.b false)))) (.ite (.v 51)
  (.ret [(false, [(.c (.b false))])])
  (.call 14 [(true, [(.v 31), (.v 32)]), (true, [(.v 45), (.v 46)])] [(false, 1)]
  (.lt (.un .not (.v 52)) (.ite (.v 53)
  (.ret [(false, [(.c (.b false))])])
  (.lt (.len (.v 37)) (.lt (.len (.v 23)) (.lt (.bin .neq (.v 54) (.v 55)) (.ite (.v 56)
  (.ret [(false, [(.c (.b false))])])
  (.loop [(.c (.b false)), (.c (.i .i64 0))]
  (.lt (.len (.v 23)) (.lt (.bin .lss (.v 58) (.v 59)) (.ite (.v 60)
  (.chk (.inb (.v 23) (.v 58) 45) (.chk (.inb (.v 37) (.v 58) 45) (.lt (.un .not (.ite (.eqt true (.idx (.v 23) (.v 58) 0) (.idx (.v 37) (.v 58) 0)) (.ite (.eqt false (.idx (.v 23) (.v 58) 1) (.idx (.v 37) (.v 58) 1)) (.ite (.eqt true (.idx (.v 23) (.v 58) 2) (.idx (.v 37) (.v 58) 2)) (.ite (.eqt false (.idx (.v 23) (.v 58) 3) (.idx (.v 37) (.v 58) 3)) (.ite (.eqt false (.idx (.v 23) (.v 58) 4) (.idx (.v 37) (.v 58) 4)) (.ite (.eqt false (.idx (.v 23) (.v 58) 5) (.idx (.v 37) (.v 58) 5)) (.ite (.eqt true (.idx (.v 23) (.v 58) 6) (.idx (.v 37) (.v 58) 6)) (.ite (.eqt true (.idx (.v 23) (.v 58) 7) (.idx (.v 37) (.v 58) 7)) (.ite (.eqt true (.idx (.v 23) (.v 58) 8) (.idx (.v 37) (.v 58) 8)) (.ite (.eqt true (.idx (.v 23) (.v 58) 9) (.idx (.v 37) (.v 58) 9)) (.ite (.eqt true (.idx (.v 23) (.v 58) 10) (.idx (.v 37) (.v 58) 10)) (.ite (.eqt true (.idx (.v 23) (.v 58) 11) (.idx (.v 37) (.v 58) 11)) (.ite (.eqt false (.idx (.v 23) (.v 58) 12) (.idx (.v 37) (.v 58) 12)) (.ite (.eqt true (.idx (.v 23) (.v 58) 13) (.idx (.v 37) (.v 58) 13)) (.ite (.eqt false (.idx (.v 23) (.v 58) 14) (.idx (.v 37) (.v 58) 14)) (.ite (.eqt false (.idx (.v 23) (.v 58) 15) (.idx (.v 37) (.v 58) 15)) (.ite (.eqt false (.idx (.v 23) (.v 58) 16) (.idx (.v 37) (.v 58) 16)) (.ite (.eqt true (.idx (.v 23) (.v 58) 17) (.idx (.v 37) (.v 58) 17)) (.ite (.eqt true (.idx (.v 23) (.v 58) 18) (.idx (.v 37) (.v 58) 18)) (.ite (.eqt true (.idx (.v 23) (.v 58) 19) (.idx (.v 37) (.v 58) 19)) (.ite (.eqt true (.idx (.v 23) (.v 58) 20) (.idx (.v 37) (.v 58) 20)) (.ite (.eqt true (.idx (.v 23) (.v 58) 21) (.idx (.v 37) (.v 58) 21)) (.ite (.eqt true (.idx (.v 23) (.v 58) 22) (.idx (.v 37) (.v 58) 22)) (.ite (.eqt false (.idx (.v 23) (.v 58) 23) (.idx (.v 37) (.v 58) 23)) (.ite (.eqt true (.idx (.v 23) (.v 58) 24) (.idx (.v 37) (.v 58) 24)) (.ite (.eqt false (.idx (.v 23) (.v 58) 25) (.idx (.v 37) (.v 58) 25)) (.ite (.eqt false (.idx (.v 23) (.v 58) 26) (.idx (.v 37) (.v 58) 26)) (.ite (.eqt false (.idx (.v 23) (.v 58) 27) (.idx (.v 37) (.v 58) 27)) (.ite (.eqt true (.idx (.v 23) (.v 58) 28) (.idx (.v 37) (.v 58) 28)) (.ite (.eqt true (.idx (.v 23) (.v 58) 29) (.idx (.v 37) (.v 58) 29)) (.ite (.eqt true (.idx (.v 23) (.v 58) 30) (.idx (.v 37) (.v 58) 30)) (.ite (.eqt true (.idx (.v 23) (.v 58) 31) (.idx (.v 37) (.v 58) 31)) (.ite (.eqt true (.idx (.v 23) (.v 58) 32) (.idx (.v 37) (.v 58) 32)) (.ite (.eqt true (.idx (.v 23) (.v 58) 33) (.idx (.v 37) (.v 58) 33)) (.ite (.eqt false (.idx (.v 23) (.v 58) 34) (.idx (.v 37) (.v 58) 34)) (.ite (.eqt true (.idx (.v 23) (.v 58) 35) (.idx (.v 37) (.v 58) 35)) (.ite (.eqt false (.idx (.v 23) (.v 58) 36) (.idx (.v 37) (.v 58) 36)) (.ite (.eqt false (.idx (.v 23) (.v 58) 37) (.idx (.v 37) (.v 58) 37)) (.ite (.eqt false (.idx (.v 23) (.v 58) 38) (.idx (.v 37) (.v 58) 38)) (.ite (.eqt true (.idx (.v 23) (.v 58) 39) (.idx (.v 37) (.v 58) 39)) (.ite (.eqt true (.idx (.v 23) (.v 58) 40) (.idx (.v 37) (.v 58) 40)) (.ite (.eqt true (.idx (.v 23) (.v 58) 41) (.idx (.v 37) (.v 58) 41)) (.ite (.eqt true (.idx (.v 23) (.v 58) 42) (.idx (.v 37) (.v 58) 42)) (.ite (.eqt true (.idx (.v 23) (.v 58) 43) (.idx (.v 37) (.v 58) 43)) (.c (.b true)) (.c (.b false))) (.c (.b false))) (.c (.b false))) (.c (.b false))) (.c (.b false))) (.c (.b false))) (.c (.b false))) (.c (.b false))) (.c (.b false))) (.c (.b false))) (.c (.b false))) (.c (.b false))) (.c (.b false))) (.c (.b false))) (.c (.b false))) (.c (.b false))) (.c (.b false))) (.c (.b false))) (.c (.b false))) (.c (.b false))) (.c (.b false))) (.c (.b false))) (.c (.b false))) (.c (.b false))) (.c (.b false))) (.c (.b false))) (.c (.b false))) (.c (.b false))) (.c (.b false))) (.c (.b false))) (.c (.b false))) (.c (.b false))) (.c (.b false))) (.c (.b false))) (.c (.b false))) (.c (.b false))) (.c (.b false))) (.c (.b false))) (.c (.b false))) (.c (.b false))) (.c (.b false))) (.c (.b false))) (.c (.b false))) (.c (.b false)))) (.ite (.v 61)
  (.ret [(false, [(.c (.b false))])])
  (.lt (.bin .add (.v 58) (.c (.i .i64 1))) (.cont 0 [(.v 57), (.v 62)]))))))
  (.ret [(false, [(.c (.b true))])]))))))))))))))))))))))))))))))
theorem atlaslaw16_HartAgain_c : compile envIrHl 3000 5 = .ok atlaslaw16_HartAgain_ir := by kernel_rfl
theorem atlaslaw16_HartAgain_p : paramShape Tryz.prog 5 = some [(true, 8), (true, 2), (false, 1), (false, 1), (false, 1)] := by kernel_rfl
def atlaslaw16_HartKeeps_ir : IR :=
  (.call 8 [] [(false, 1)]
  (.lt (.un .not (.v 14)) (.ite (.v 15)
  (.call 8 [] [(false, 1)]
  (.ret [(false, [(.v 16)])]))
  (.call 9 [(true, (vr 0 8)), (true, [(.v 8), (.v 9)])] [(false, 1)]
  (.lt (.un .not (.v 16)) (.ite (.v 17)
  (.call 8 [] [(false, 1)]
  (.ret [(false, [(.v 18)])]))
  (.chk (.room (.len (.app 45 (.c (.sl 45 [])) (.v 0))) 233) (.chk (.room (.len (.app 2 (.c (.sl 2 [])) (.v 9))) 17) (.lt (.app 2 (.c (.sl 2 [])) (.v 9)) (.lt (.bin .rem (.v 10) (.c (.i .u8 3))) (.lt (.cv .i64 (.v 19)) (.call 11 [(false, [(.v 12)])] [(false, 1)]
  (.call 12 [(true, ([(.app 45 (.c (.sl 45 [])) (.v 0))] ++ vr 1 7)), (true, [(.v 8), (.v 18)]), (false, [(.v 20)]), (false, [(.v 11)]), (false, [(.v 21)]), (false, [(.v 13)])] [(true, 8), (true, 2), (true, 4)]
  (.call 18 [(true, ([(.app 45 (.c (.sl 45 [])) (.v 0))] ++ vr 1 7)), (true, (vr 0 8))] [(false, 1)]
  (.chk (.eqt true (.v 36) (.v 36)) (.ite (.v 36)
  (.call 14 [(true, [(.v 8), (.v 18)]), (true, [(.v 8), (.v 9)])] [(false, 1)]
  (.ret [(false, [(.v 37)])]))
  (.ret [(false, [(.c (.b false))])])))))))))))))))))
theorem atlaslaw16_HartKeeps_c : compile envIrHl 3000 6 = .ok atlaslaw16_HartKeeps_ir := by kernel_rfl
theorem atlaslaw16_HartKeeps_p : paramShape Tryz.prog 6 = some [(true, 8), (true, 2), (false, 1), (false, 1), (false, 1), (false, 1)] := by kernel_rfl
def atlaslaw16_HartNone_ir : IR :=
  (.call 8 [] [(false, 1)]
  (.lt (.un .not (.v 14)) (.ite (.v 15)
  (.call 8 [] [(false, 1)]
  (.ret [(false, [(.v 16)])]))
  (.call 9 [(true, (vr 0 8)), (true, [(.v 8), (.v 9)])] [(false, 1)]
  (.lt (.un .not (.v 16)) (.ite (.v 17)
  (.call 8 [] [(false, 1)]
  (.ret [(false, [(.v 18)])]))
  (.call 13 [(true, (vr 0 8))] [(true, 8)]
  (.lt (.bin .rem (.v 10) (.c (.i .u8 2))) (.lt (.cv .i64 (.v 26)) (.call 11 [(false, [(.v 12)])] [(false, 1)]
  (.call 12 [(true, (vr 18 8)), (true, [(.v 8), (.v 9)]), (false, [(.v 27)]), (false, [(.v 11)]), (false, [(.v 28)]), (false, [(.c (.i .u64 0))])] [(true, 8), (true, 2), (true, 4)]
  (.lt (.len (.v 29)) (.lt (.bin .neq (.v 43) (.c (.i .i64 0))) (.ite (.v 44)
  (.ret [(false, [(.c (.b false))])])
  (.lt (.bin .neq (.v 36) (.v 25)) (.ite (.v 45)
  (.lt (.bin .neq (.v 36) (.c (.i .i64 (-1)))) (.ite (.v 46)
  (.ret [(false, [(.c (.b false))])])
  (.call 12 [(true, (vr 18 8)), (true, [(.v 8), (.v 9)]), (false, [(.c (.i .i64 1))]), (false, [(.v 13)]), (false, [(.c (.i .i64 1))]), (false, [(.c (.i .u64 0))])] [(true, 8), (true, 2), (true, 4)]
  (.call 12 [(true, (vr 18 8)), (true, [(.v 55), (.v 56)]), (false, [(.v 27)]), (false, [(.v 11)]), (false, [(.v 28)]), (false, [(.c (.i .u64 0))])] [(true, 8), (true, 2), (true, 4)]
  (.call 12 [(true, (vr 29 8)), (true, [(.v 37), (.v 38)]), (false, [(.v 27)]), (false, [(.v 11)]), (false, [(.v 28)]), (false, [(.c (.i .u64 0))])] [(true, 8), (true, 2), (true, 4)]
  (.lt (.ite (.eqt true (.v 86) (.v 40)) (.ite (.eqt false (.v 87) (.v 41)) (.ite (.eqt false (.v 88) (.v 42)) (.c (.b true)) (.c (.b false))) (.c (.b false))) (.c (.b false))) (.ite (.v 89)
  (.lt (.ite (.eqt true (.v 72) (.v 40)) (.ite (.eqt false (.v 73) (.v 41)) (.ite (.eqt false (.v 74) (.v 42)) (.c (.b true)) (.c (.b false))) (.c (.b false))) (.c (.b false))) (.ret [(false, [(.v 90)])]))
  (.ret [(false, [(.c (.b false))])]))))))))
  (.call 12 [(true, (vr 18 8)), (true, [(.v 8), (.v 9)]), (false, [(.c (.i .i64 1))]), (false, [(.v 13)]), (false, [(.c (.i .i64 1))]), (false, [(.c (.i .u64 0))])] [(true, 8), (true, 2), (true, 4)]
  (.call 12 [(true, (vr 18 8)), (true, [(.v 54), (.v 55)]), (false, [(.v 27)]), (false, [(.v 11)]), (false, [(.v 28)]), (false, [(.c (.i .u64 0))])] [(true, 8), (true, 2), (true, 4)]
  (.call 12 [(true, (vr 29 8)), (true, [(.v 37), (.v 38)]), (false, [(.v 27)]), (false, [(.v 11)]), (false, [(.v 28)]), (false, [(.c (.i .u64 0))])] [(true, 8), (true, 2), (true, 4)]
  (.lt (.ite (.eqt true (.v 85) (.v 40)) (.ite (.eqt false (.v 86) (.v 41)) (.ite (.eqt false (.v 87) (.v 42)) (.c (.b true)) (.c (.b false))) (.c (.b false))) (.c (.b false))) (.ite (.v 88)
  (.lt (.ite (.eqt true (.v 71) (.v 40)) (.ite (.eqt false (.v 72) (.v 41)) (.ite (.eqt false (.v 73) (.v 42)) (.c (.b true)) (.c (.b false))) (.c (.b false))) (.c (.b false))) (.ret [(false, [(.v 89)])]))
  (.ret [(false, [(.c (.b false))])]))))))))))))))))))))))
theorem atlaslaw16_HartNone_c : compile envIrHl 3000 7 = .ok atlaslaw16_HartNone_ir := by kernel_rfl
theorem atlaslaw16_HartNone_p : paramShape Tryz.prog 7 = some [(true, 8), (true, 2), (false, 1), (false, 1), (false, 1), (false, 1)] := by kernel_rfl
def atlaslaw16_awake_ir : IR :=
  (.call 12 [(true, [(.c (.sl 0 [])), (.c (.i .u64 0)), (.c (.i .u64 0)), (.c (.i .u64 0)), (.c (.i .i64 1)), (.c (.b false)), (.c (.b false)), (.c (.i .i64 0))]), (true, [(.c (.i .u64 8192)), (.cat (.one [(.c (.i .u64 0)), (.c (.i .u64 7))]) (.one [(.c (.i .u64 512)), (.c (.i .u64 19))]))]), (false, [(.c (.i .i64 1))]), (false, [(.c (.i .u64 0))]), (false, [(.c (.i .i64 8))]), (false, [(.c (.i .u64 0))])] [(true, 8), (true, 2), (true, 4)]
  (.call 12 [(true, [(.c (.sl 0 [])), (.c (.i .u64 0)), (.c (.i .u64 0)), (.c (.i .u64 0)), (.c (.i .i64 1)), (.c (.b false)), (.c (.b false)), (.c (.i .i64 0))]), (true, [(.c (.i .u64 8192)), (.cat (.one [(.c (.i .u64 0)), (.c (.i .u64 7))]) (.one [(.c (.i .u64 512)), (.c (.i .u64 19))]))]), (false, [(.c (.i .i64 1))]), (false, [(.c (.i .u64 1))]), (false, [(.c (.i .i64 2))]), (false, [(.c (.i .u64 0))])] [(true, 8), (true, 2), (true, 4)]
  (.call 12 [(true, [(.c (.sl 0 [])), (.c (.i .u64 0)), (.c (.i .u64 0)), (.c (.i .u64 0)), (.c (.i .i64 1)), (.c (.b false)), (.c (.b false)), (.c (.i .i64 0))]), (true, [(.c (.i .u64 8192)), (.cat (.one [(.c (.i .u64 0)), (.c (.i .u64 7))]) (.one [(.c (.i .u64 512)), (.c (.i .u64 19))]))]), (false, [(.c (.i .i64 0))]), (false, [(.c (.i .u64 8192))]), (false, [(.c (.i .i64 4))]), (false, [(.c (.i .u64 0))])] [(true, 8), (true, 2), (true, 4)]
  (.call 12 [(true, [(.c (.sl 0 [])), (.c (.i .u64 0)), (.c (.i .u64 0)), (.c (.i .u64 0)), (.c (.i .i64 1)), (.c (.b false)), (.c (.b false)), (.c (.i .i64 0))]), (true, [(.c (.i .u64 8192)), (.cat (.one [(.c (.i .u64 0)), (.c (.i .u64 7))]) (.one [(.c (.i .u64 512)), (.c (.i .u64 19))]))]), (false, [(.c (.i .i64 2))]), (false, [(.c (.i .u64 0))]), (false, [(.c (.i .i64 1))]), (false, [(.c (.i .u64 9))])] [(true, 8), (true, 2), (true, 4)]
  (.chk (.room (.c (.i .i64 1)) 233) (.call 12 [(true, [(.mk (.c (.i .i64 1)) [(.c (.b false)), (.c (.i .u64 0)), (.c (.b false)), (.c (.i .i64 0)), (.c (.i .u64 0)), (.c (.i .u64 0)), (.c (.b false)), (.c (.b false)), (.c (.b false)), (.c (.b false)), (.c (.b false)), (.c (.b false)), (.c (.i .u64 0)), (.c (.b false)), (.c (.i .i64 0)), (.c (.i .u64 0)), (.c (.i .u64 0)), (.c (.b false)), (.c (.b false)), (.c (.b false)), (.c (.b false)), (.c (.b false)), (.c (.b false)), (.c (.i .u64 0)), (.c (.b false)), (.c (.i .i64 0)), (.c (.i .u64 0)), (.c (.i .u64 0)), (.c (.b false)), (.c (.b false)), (.c (.b false)), (.c (.b false)), (.c (.b false)), (.c (.b false)), (.c (.i .u64 0)), (.c (.b false)), (.c (.i .i64 0)), (.c (.i .u64 0)), (.c (.i .u64 0)), (.c (.b false)), (.c (.b false)), (.c (.b false)), (.c (.b false)), (.c (.b false)), (.c (.i .u8 0))]), (.c (.i .u64 8)), (.c (.i .u64 1)), (.c (.i .u64 1)), (.c (.i .i64 0)), (.c (.b false)), (.c (.b false)), (.c (.i .i64 (-1)))]), (true, [(.c (.i .u64 8192)), (.cat (.one [(.c (.i .u64 0)), (.c (.i .u64 7))]) (.one [(.c (.i .u64 512)), (.c (.i .u64 19))]))]), (false, [(.c (.i .i64 1))]), (false, [(.c (.i .u64 0))]), (false, [(.c (.i .i64 8))]), (false, [(.c (.i .u64 0))])] [(true, 8), (true, 2), (true, 4)]
  (.call 12 [(true, [(.mk (.c (.i .i64 1)) [(.c (.b false)), (.c (.i .u64 0)), (.c (.b false)), (.c (.i .i64 0)), (.c (.i .u64 0)), (.c (.i .u64 0)), (.c (.b false)), (.c (.b false)), (.c (.b false)), (.c (.b false)), (.c (.b false)), (.c (.b false)), (.c (.i .u64 0)), (.c (.b false)), (.c (.i .i64 0)), (.c (.i .u64 0)), (.c (.i .u64 0)), (.c (.b false)), (.c (.b false)), (.c (.b false)), (.c (.b false)), (.c (.b false)), (.c (.b false)), (.c (.i .u64 0)), (.c (.b false)), (.c (.i .i64 0)), (.c (.i .u64 0)), (.c (.i .u64 0)), (.c (.b false)), (.c (.b false)), (.c (.b false)), (.c (.b false)), (.c (.b false)), (.c (.b false)), (.c (.i .u64 0)), (.c (.b false)), (.c (.i .i64 0)), (.c (.i .u64 0)), (.c (.i .u64 0)), (.c (.b false)), (.c (.b false)), (.c (.b false)), (.c (.b false)), (.c (.b false)), (.c (.i .u8 0))]), (.c (.i .u64 8)), (.c (.i .u64 1)), (.c (.i .u64 1)), (.c (.i .i64 0)), (.c (.b false)), (.c (.b false)), (.c (.i .i64 (-1)))]), (true, [(.c (.i .u64 8192)), (.cat (.one [(.c (.i .u64 0)), (.c (.i .u64 7))]) (.one [(.c (.i .u64 512)), (.c (.i .u64 19))]))]), (false, [(.c (.i .i64 2))]), (false, [(.c (.i .u64 0))]), (false, [(.c (.i .i64 8))]), (false, [(.c (.i .u64 0))])] [(true, 8), (true, 2), (true, 4)]
  (.call 12 [(true, [(.mk (.c (.i .i64 1)) [(.c (.b false)), (.c (.i .u64 0)), (.c (.b false)), (.c (.i .i64 0)), (.c (.i .u64 0)), (.c (.i .u64 0)), (.c (.b false)), (.c (.b false)), (.c (.b false)), (.c (.b false)), (.c (.b false)), (.c (.b false)), (.c (.i .u64 0)), (.c (.b false)), (.c (.i .i64 0)), (.c (.i .u64 0)), (.c (.i .u64 0)), (.c (.b false)), (.c (.b false)), (.c (.b false)), (.c (.b false)), (.c (.b false)), (.c (.b false)), (.c (.i .u64 0)), (.c (.b false)), (.c (.i .i64 0)), (.c (.i .u64 0)), (.c (.i .u64 0)), (.c (.b false)), (.c (.b false)), (.c (.b false)), (.c (.b false)), (.c (.b false)), (.c (.b false)), (.c (.i .u64 0)), (.c (.b false)), (.c (.i .i64 0)), (.c (.i .u64 0)), (.c (.i .u64 0)), (.c (.b false)), (.c (.b false)), (.c (.b false)), (.c (.b false)), (.c (.b false)), (.c (.i .u8 0))]), (.c (.i .u64 8)), (.c (.i .u64 1)), (.c (.i .u64 1)), (.c (.i .i64 0)), (.c (.b false)), (.c (.b false)), (.c (.i .i64 (-1)))]), (true, [(.c (.i .u64 8192)), (.cat (.one [(.c (.i .u64 0)), (.c (.i .u64 7))]) (.one [(.c (.i .u64 512)), (.c (.i .u64 19))]))]), (false, [(.c (.i .i64 1))]), (false, [(.c (.i .u64 274877906944))]), (false, [(.c (.i .i64 8))]), (false, [(.c (.i .u64 0))])] [(true, 8), (true, 2), (true, 4)]
  (.lt (.ite (.eqt false (.v 10) (.c (.i .u64 7))) (.ite (.eqt true (.v 11) (.c (.b false))) (.ite (.eqt false (.v 12) (.c (.i .i64 0))) (.ite (.eqt false (.v 13) (.c (.i .u64 0))) (.c (.b true)) (.c (.b false))) (.c (.b false))) (.c (.b false))) (.c (.b false))) (.ite (.v 98)
  (.lt (.bin .eql (.v 26) (.c (.i .i64 4))) (.ite (.v 99)
  (.lt (.ite (.eqt true (.v 39) (.c (.b true))) (.ite (.eqt false (.v 40) (.c (.i .i64 1))) (.ite (.eqt false (.v 41) (.c (.i .u64 8192))) (.c (.b true)) (.c (.b false))) (.c (.b false))) (.c (.b false))) (.ite (.v 100)
  (.lt (.un .not (.v 53)) (.ite (.v 101)
  (.chk (.inb (.v 51) (.c (.i .i64 0)) 2) (.lt (.bin .eql (.idx (.v 51) (.c (.i .i64 0)) 1) (.c (.i .u64 9))) (.ite (.v 102)
  (.lt (.ite (.eqt false (.v 66) (.c (.i .u64 7))) (.ite (.eqt true (.v 67) (.c (.b false))) (.ite (.eqt false (.v 68) (.c (.i .i64 0))) (.ite (.eqt false (.v 69) (.c (.i .u64 0))) (.c (.b true)) (.c (.b false))) (.c (.b false))) (.c (.b false))) (.c (.b false))) (.ite (.v 103)
  (.call 20 [(true, [(.v 56)])] [(false, 1)]
  (.lt (.len (.v 104)) (.lt (.bin .eql (.v 105) (.c (.i .i64 1))) (.ite (.v 106)
  (.call 21 [(true, [(.v 64), (.v 65)]), (false, [(.c (.i .u64 4096))])] [(false, 1)]
  (.lt (.bin .eql (.v 107) (.c (.i .u64 83))) (.ite (.v 108)
  (.lt (.bin .eql (.v 82) (.c (.i .i64 15))) (.ite (.v 109)
  (.lt (.bin .eql (.v 96) (.c (.i .i64 13))) (.ite (.v 110)
  (.call 16 [(true, (vr 56 8))] [(false, 1)]
  (.ite (.v 111)
  (.call 15 [(true, (vr 56 8)), (true, [(.v 64), (.v 65)])] [(false, 1)]
  (.ite (.v 112)
  (.call 15 [(true, (vr 56 8)), (true, [(.c (.i .u64 8192)), (.cat (.one [(.c (.i .u64 0)), (.c (.i .u64 7))]) (.one [(.c (.i .u64 512)), (.c (.i .u64 19))]))])] [(false, 1)]
  (.chk (.eqt true (.v 113) (.v 113)) (.lt (.un .not (.v 113)) (.ite (.v 114)
  (.call 22 [(true, [(.mk (.c (.i .i64 1)) [(.c (.b false)), (.c (.i .u64 0)), (.c (.b false)), (.c (.i .i64 0)), (.c (.i .u64 0)), (.c (.i .u64 0)), (.c (.b false)), (.c (.b false)), (.c (.b false)), (.c (.b false)), (.c (.b false)), (.c (.b false)), (.c (.i .u64 0)), (.c (.b false)), (.c (.i .i64 0)), (.c (.i .u64 0)), (.c (.i .u64 0)), (.c (.b false)), (.c (.b false)), (.c (.b false)), (.c (.b false)), (.c (.b false)), (.c (.b false)), (.c (.i .u64 0)), (.c (.b false)), (.c (.i .i64 0)), (.c (.i .u64 0)), (.c (.i .u64 0)), (.c (.b false)), (.c (.b false)), (.c (.b false)), (.c (.b false)), (.c (.b false)), (.c (.b false)), (.c (.i .u64 0)), (.c (.b false)), (.c (.i .i64 0)), (.c (.i .u64 0)), (.c (.i .u64 0)), (.c (.b false)), (.c (.b false)), (.c (.b false)), (.c (.b false)), (.c (.b false)), (.c (.i .u8 0))]), (.c (.i .u64 8)), (.c (.i .u64 1)), (.c (.i .u64 1)), (.c (.i .i64 0)), (.c (.b false)), (.c (.b false)), (.c (.i .i64 (-1)))]), (false, [(.c (.i .i64 2))])] [(true, 4)]
  (.chk (.eqt false (.v 115) (.v 115)) (.chk (.eqt false (.v 116) (.v 116)) (.chk (.eqt true (.v 117) (.v 117)) (.chk (.eqt true (.v 118) (.v 118)) (.lt (.ite (.eqt false (.v 115) (.c (.i .i64 2))) (.ite (.eqt false (.v 116) (.c (.i .i64 0))) (.ite (.eqt true (.v 117) (.c (.b false))) (.ite (.eqt true (.v 118) (.c (.b false))) (.c (.b true)) (.c (.b false))) (.c (.b false))) (.c (.b false))) (.c (.b false))) (.ret [(false, [(.v 119)])])))))))
  (.ret [(false, [(.c (.b false))])])))))
  (.ret [(false, [(.c (.b false))])])))
  (.ret [(false, [(.c (.b false))])])))
  (.ret [(false, [(.c (.b false))])])))
  (.ret [(false, [(.c (.b false))])])))
  (.ret [(false, [(.c (.b false))])]))))
  (.ret [(false, [(.c (.b false))])])))))
  (.ret [(false, [(.c (.b false))])])))
  (.ret [(false, [(.c (.b false))])]))))
  (.ret [(false, [(.c (.b false))])])))
  (.ret [(false, [(.c (.b false))])])))
  (.ret [(false, [(.c (.b false))])])))
  (.ret [(false, [(.c (.b false))])])))))))))))
theorem atlaslaw16_awake_c : compile envIrHl 3000 8 = .ok atlaslaw16_awake_ir := by kernel_rfl
theorem atlaslaw16_awake_p : paramShape Tryz.prog 8 = some [] := by kernel_rfl
def atlaslaw16_fits_ir : IR :=
  (.lt (.len (.v 0)) (.lt (.bin .leq (.v 10) (.c (.i .i64 16))) (.ite (.v 11)
  (.call 23 [(true, (vr 0 8))] [(false, 1)]
  (.ite (.v 12)
  (.call 24 [(true, [(.v 8), (.v 9)])] [(false, 1)]
  (.ite (.v 13)
  (.call 17 [(true, [(.v 8), (.v 9)])] [(false, 1)]
  (.ret [(false, [(.v 14)])]))
  (.ret [(false, [(.c (.b false))])])))
  (.ret [(false, [(.c (.b false))])])))
  (.ret [(false, [(.c (.b false))])]))))
theorem atlaslaw16_fits_c : compile envIrHl 3000 9 = .ok atlaslaw16_fits_ir := by kernel_rfl
theorem atlaslaw16_fits_p : paramShape Tryz.prog 9 = some [(true, 8), (true, 2)] := by kernel_rfl
end Go.Proofs.YtmmppghdnoeheaaGreatDoor.Sx
