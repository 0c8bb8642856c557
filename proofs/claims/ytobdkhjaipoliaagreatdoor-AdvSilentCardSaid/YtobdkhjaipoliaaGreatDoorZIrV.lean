/-
  IRs of functions, printed by a program of mine (wip/tools/mkir.py, ev.run.lean); each is checked by the kernel against the executor.
-/
import Derived.Test.YtobdkhjaipoliaaGreatDoorZBf
import Derived.Test.YtobdkhjaipoliaaGreatDoorProg
namespace Go.Proofs.YtobdkhjaipoliaaGreatDoor.Sx
open Go
set_option maxRecDepth 100000
noncomputable def envIrV : Env := { P := Tryz.prog, G := gAll, inl := [], unr := [], ded := true }
def atlaslaw17_awake_ir : IR :=
  (.chk (.room (.c (.i .i64 1)) 233) (.call 9 [(true, [(.mk (.c (.i .i64 1)) [(.c (.b false)), (.c (.i .u64 0)), (.c (.b false)), (.c (.i .i64 0)), (.c (.i .u64 0)), (.c (.i .u64 0)), (.c (.b false)), (.c (.b false)), (.c (.b false)), (.c (.b false)), (.c (.b false)), (.c (.b false)), (.c (.i .u64 0)), (.c (.b false)), (.c (.i .i64 0)), (.c (.i .u64 0)), (.c (.i .u64 0)), (.c (.b false)), (.c (.b false)), (.c (.b false)), (.c (.b false)), (.c (.b false)), (.c (.b false)), (.c (.i .u64 0)), (.c (.b false)), (.c (.i .i64 0)), (.c (.i .u64 0)), (.c (.i .u64 0)), (.c (.b false)), (.c (.b false)), (.c (.b false)), (.c (.b false)), (.c (.b false)), (.c (.b false)), (.c (.i .u64 0)), (.c (.b false)), (.c (.i .i64 0)), (.c (.i .u64 0)), (.c (.i .u64 0)), (.c (.b false)), (.c (.b false)), (.c (.b false)), (.c (.b false)), (.c (.b false)), (.c (.i .u8 0))]), (.c (.i .u64 8)), (.c (.i .u64 1)), (.c (.i .u64 1)), (.c (.i .i64 0)), (.c (.b false)), (.c (.b false)), (.c (.i .i64 (-1)))]), (false, [(.c (.i .i64 2))])] [(true, 8), (false, 1)]
  (.call 9 [(true, [(.mk (.c (.i .i64 1)) [(.c (.b false)), (.c (.i .u64 0)), (.c (.b false)), (.c (.i .i64 0)), (.c (.i .u64 0)), (.c (.i .u64 0)), (.c (.b false)), (.c (.b false)), (.c (.b false)), (.c (.b false)), (.c (.b false)), (.c (.b false)), (.c (.i .u64 0)), (.c (.b false)), (.c (.i .i64 0)), (.c (.i .u64 0)), (.c (.i .u64 0)), (.c (.b false)), (.c (.b false)), (.c (.b false)), (.c (.b false)), (.c (.b false)), (.c (.b false)), (.c (.i .u64 0)), (.c (.b false)), (.c (.i .i64 0)), (.c (.i .u64 0)), (.c (.i .u64 0)), (.c (.b false)), (.c (.b false)), (.c (.b false)), (.c (.b false)), (.c (.b false)), (.c (.b false)), (.c (.i .u64 0)), (.c (.b false)), (.c (.i .i64 0)), (.c (.i .u64 0)), (.c (.i .u64 0)), (.c (.b false)), (.c (.b false)), (.c (.b false)), (.c (.b false)), (.c (.b false)), (.c (.i .u8 0))]), (.c (.i .u64 8)), (.c (.i .u64 1)), (.c (.i .u64 1)), (.c (.i .i64 0)), (.c (.b false)), (.c (.b false)), (.c (.i .i64 (-1)))]), (false, [(.c (.i .i64 4))])] [(true, 8), (false, 1)]
  (.call 7 [(true, (vr 0 8)), (true, [(.c (.i .u64 8192)), (.one [(.c (.i .u64 512)), (.c (.i .u64 9))])]), (false, [(.c (.i .u64 5))]), (false, [(.c (.i .i64 1))])] [(true, 8), (true, 2)]
  (.call 8 [(true, (vr 18 8)), (false, [(.c (.i .i64 0))]), (false, [(.c (.i .i64 2))])] [(true, 8), (false, 1)]
  (.call 8 [(true, (vr 18 8)), (false, [(.c (.i .i64 1))]), (false, [(.c (.i .i64 0))])] [(true, 8), (false, 1)]
  (.call 7 [(true, [(.mk (.c (.i .i64 1)) [(.c (.b false)), (.c (.i .u64 0)), (.c (.b false)), (.c (.i .i64 0)), (.c (.i .u64 0)), (.c (.i .u64 0)), (.c (.b false)), (.c (.b false)), (.c (.b false)), (.c (.b false)), (.c (.b false)), (.c (.b false)), (.c (.i .u64 0)), (.c (.b false)), (.c (.i .i64 0)), (.c (.i .u64 0)), (.c (.i .u64 0)), (.c (.b false)), (.c (.b false)), (.c (.b false)), (.c (.b false)), (.c (.b false)), (.c (.b false)), (.c (.i .u64 0)), (.c (.b false)), (.c (.i .i64 0)), (.c (.i .u64 0)), (.c (.i .u64 0)), (.c (.b false)), (.c (.b false)), (.c (.b false)), (.c (.b false)), (.c (.b false)), (.c (.b false)), (.c (.i .u64 0)), (.c (.b false)), (.c (.i .i64 0)), (.c (.i .u64 0)), (.c (.i .u64 0)), (.c (.b false)), (.c (.b false)), (.c (.b false)), (.c (.b false)), (.c (.b false)), (.c (.i .u8 0))]), (.c (.i .u64 8)), (.c (.i .u64 1)), (.c (.i .u64 1)), (.c (.i .i64 0)), (.c (.b false)), (.c (.b false)), (.c (.i .i64 (-1)))]), (true, [(.c (.i .u64 8192)), (.one [(.c (.i .u64 512)), (.c (.i .u64 9))])]), (false, [(.c (.i .u64 1073741824))]), (false, [(.c (.i .i64 1))])] [(true, 8), (true, 2)]
  (.lt (.bin .eql (.v 8) (.c (.i .i64 0))) (.ite (.v 56)
  (.lt (.bin .eql (.v 7) (.c (.i .i64 2))) (.ite (.v 57)
  (.lt (.bin .eql (.v 17) (.c (.i .i64 1))) (.ite (.v 58)
  (.lt (.bin .eql (.v 25) (.c (.i .i64 (-1)))) (.ite (.v 59)
  (.lt (.len (.v 18)) (.lt (.bin .eql (.v 60) (.c (.i .i64 1))) (.ite (.v 61)
  (.chk (.inb (.v 18) (.c (.i .i64 0)) 45) (.ite (.idx (.v 18) (.c (.i .i64 0)) 22)
  (.chk (.inb (.v 27) (.c (.i .i64 0)) 2) (.lt (.bin .eql (.idx (.v 27) (.c (.i .i64 0)) 1) (.c (.i .u64 73))) (.ite (.v 62)
  (.lt (.bin .eql (.v 36) (.c (.i .i64 0))) (.ite (.v 63)
  (.call 13 [(true, [(.v 28)])] [(false, 1)]
  (.lt (.len (.v 64)) (.lt (.bin .eql (.v 65) (.c (.i .i64 0))) (.ite (.v 66)
  (.lt (.bin .eql (.v 45) (.c (.i .i64 1))) (.ite (.v 67)
  (.call 14 [(true, (vr 46 8)), (true, [(.mk (.c (.i .i64 1)) [(.c (.b false)), (.c (.i .u64 0)), (.c (.b false)), (.c (.i .i64 0)), (.c (.i .u64 0)), (.c (.i .u64 0)), (.c (.b false)), (.c (.b false)), (.c (.b false)), (.c (.b false)), (.c (.b false)), (.c (.b false)), (.c (.i .u64 0)), (.c (.b false)), (.c (.i .i64 0)), (.c (.i .u64 0)), (.c (.i .u64 0)), (.c (.b false)), (.c (.b false)), (.c (.b false)), (.c (.b false)), (.c (.b false)), (.c (.b false)), (.c (.i .u64 0)), (.c (.b false)), (.c (.i .i64 0)), (.c (.i .u64 0)), (.c (.i .u64 0)), (.c (.b false)), (.c (.b false)), (.c (.b false)), (.c (.b false)), (.c (.b false)), (.c (.b false)), (.c (.i .u64 0)), (.c (.b false)), (.c (.i .i64 0)), (.c (.i .u64 0)), (.c (.i .u64 0)), (.c (.b false)), (.c (.b false)), (.c (.b false)), (.c (.b false)), (.c (.b false)), (.c (.i .u8 0))]), (.c (.i .u64 8)), (.c (.i .u64 1)), (.c (.i .u64 1)), (.c (.i .i64 0)), (.c (.b false)), (.c (.b false)), (.c (.i .i64 (-1)))])] [(false, 1)]
  (.chk (.eqt true (.v 68) (.v 68)) (.ite (.v 68)
  (.call 15 [(true, [(.v 54), (.v 55)]), (true, [(.c (.i .u64 8192)), (.one [(.c (.i .u64 512)), (.c (.i .u64 9))])])] [(false, 1)]
  (.chk (.eqt true (.v 69) (.v 69)) (.ret [(false, [(.v 69)])])))
  (.ret [(false, [(.c (.b false))])]))))
  (.ret [(false, [(.c (.b false))])])))
  (.ret [(false, [(.c (.b false))])])))))
  (.ret [(false, [(.c (.b false))])])))
  (.ret [(false, [(.c (.b false))])]))))
  (.ret [(false, [(.c (.b false))])])))
  (.ret [(false, [(.c (.b false))])]))))
  (.ret [(false, [(.c (.b false))])])))
  (.ret [(false, [(.c (.b false))])])))
  (.ret [(false, [(.c (.b false))])])))
  (.ret [(false, [(.c (.b false))])]))))))))))
theorem atlaslaw17_awake_c : compile envIrV 3000 4 = .ok atlaslaw17_awake_ir := by kernel_rfl
theorem atlaslaw17_awake_p : paramShape Tryz.prog 4 = some [] := by kernel_rfl
def atlaslaw17_fits_ir : IR :=
  (.lt (.len (.v 0)) (.lt (.bin .leq (.v 10) (.c (.i .i64 16))) (.ite (.v 11)
  (.call 16 [(true, (vr 0 8))] [(false, 1)]
  (.ite (.v 12)
  (.call 17 [(true, [(.v 8), (.v 9)])] [(false, 1)]
  (.ite (.v 13)
  (.call 18 [(true, [(.v 8), (.v 9)])] [(false, 1)]
  (.ret [(false, [(.v 14)])]))
  (.ret [(false, [(.c (.b false))])])))
  (.ret [(false, [(.c (.b false))])])))
  (.ret [(false, [(.c (.b false))])]))))
theorem atlaslaw17_fits_c : compile envIrV 3000 5 = .ok atlaslaw17_fits_ir := by kernel_rfl
theorem atlaslaw17_fits_p : paramShape Tryz.prog 5 = some [(true, 8), (true, 2)] := by kernel_rfl
def adv_Bring_ir : IR :=
  (.call 22 [(true, [(.v 1), (.v 2), (.v 3)])] [(false, 1)]
  (.lt (.un .not (.v 12)) (.ite (.v 13)
  (.ret [(true, (vr 0 8)), (true, [(.v 8), (.v 9)])])
  (.call 23 [(true, [(.v 8), (.v 9)]), (false, [(.v 3)]), (false, [(.v 10)]), (false, [(.v 11)])] [(true, 13), (true, 3)]
  (.ite (.v 27)
  (.ret [(true, (vr 0 8)), (true, [(.v 8), (.v 9)])])
  (.call 24 [(true, [(.v 8), (.v 9)]), (true, (vr 14 13)), (false, [(.c (.b false))])] [(true, 2), (true, 13)]
  (.call 26 [(true, (vr 32 13)), (false, [(.v 10)]), (false, [(.v 2)])] [(true, 11)]
  (.call 25 [(true, [(.v 0)]), (true, (vr 45 11)), (false, [(.v 7)])] [(true, 1)]
  (.ret [(true, ([(.v 56)] ++ vr 1 6 ++ [(.c (.i .i64 (-1)))])), (true, [(.v 30), (.v 31)])])))))))))
theorem adv_Bring_c : compile envIrV 3000 7 = .ok adv_Bring_ir := by kernel_rfl
theorem adv_Bring_p : paramShape Tryz.prog 7 = some [(true, 8), (true, 2), (false, 1), (false, 1)] := by kernel_rfl
def adv_Evict_ir : IR :=
  (.call 27 [(true, [(.v 0)]), (false, [(.v 8)]), (false, [(.v 9)])] [(true, 1), (false, 1)]
  (.ret [(true, ([(.v 10)] ++ vr 1 7)), (false, [(.v 11)])]))
theorem adv_Evict_c : compile envIrV 3000 8 = .ok adv_Evict_ir := by kernel_rfl
theorem adv_Evict_p : paramShape Tryz.prog 8 = some [(true, 8), (false, 1), (false, 1)] := by kernel_rfl
def adv_Pick_ir : IR :=
  (.lt (.bin .lss (.v 8) (.c (.i .i64 0))) (.ite (.v 9)
  (.ret [(true, (vr 0 8)), (false, [(.c (.i .i64 1))])])
  (.lt (.bin .geq (.v 8) (.c (.i .i64 4))) (.ite (.v 10)
  (.ret [(true, (vr 0 8)), (false, [(.c (.i .i64 1))])])
  (.ret [(true, (vr 0 7 ++ [(.v 8)])), (false, [(.c (.i .i64 0))])])))))
theorem adv_Pick_c : compile envIrV 3000 9 = .ok adv_Pick_ir := by kernel_rfl
theorem adv_Pick_p : paramShape Tryz.prog 9 = some [(true, 8), (false, 1)] := by kernel_rfl
def atlasref16_Same_ir : IR :=
  (.call 32 [(true, [(.v 0)]), (true, [(.v 8)])] [(false, 1)]
  (.ite (.v 16)
  (.lt (.ite (.eqt false (.v 1) (.v 9)) (.ite (.eqt false (.v 2) (.v 10)) (.ite (.eqt false (.v 3) (.v 11)) (.c (.b true)) (.c (.b false))) (.c (.b false))) (.c (.b false))) (.ite (.v 17)
  (.lt (.bin .eql (.v 4) (.v 12)) (.ite (.v 18)
  (.lt (.eqt true (.v 5) (.v 13)) (.ite (.v 19)
  (.lt (.eqt true (.v 6) (.v 14)) (.ite (.v 20)
  (.lt (.bin .eql (.v 7) (.v 15)) (.ret [(false, [(.v 21)])]))
  (.ret [(false, [(.c (.b false))])])))
  (.ret [(false, [(.c (.b false))])])))
  (.ret [(false, [(.c (.b false))])])))
  (.ret [(false, [(.c (.b false))])])))
  (.ret [(false, [(.c (.b false))])])))
theorem atlasref16_Same_c : compile envIrV 3000 14 = .ok atlasref16_Same_ir := by kernel_rfl
theorem atlasref16_Same_p : paramShape Tryz.prog 14 = some [(true, 8), (true, 8)] := by kernel_rfl
def atlasref16_Right_ir : IR :=
  (.call 33 [(true, [(.v 0)])] [(false, 1)]
  (.ite (.v 8)
  (.call 34 [(true, [(.v 1), (.v 2), (.v 3)])] [(false, 1)]
  (.ite (.v 9)
  (.lt (.bin .eql (.v 4) (.c (.i .i64 0))) (.ite (.v 10)
  (.ret [(false, [(.c (.b true))])])
  (.lt (.bin .eql (.v 4) (.c (.i .i64 1))) (.ret [(false, [(.v 11)])]))))
  (.ret [(false, [(.c (.b false))])])))
  (.ret [(false, [(.c (.b false))])])))
theorem atlasref16_Right_c : compile envIrV 3000 16 = .ok atlasref16_Right_ir := by kernel_rfl
theorem atlasref16_Right_p : paramShape Tryz.prog 16 = some [(true, 8)] := by kernel_rfl
def satp_On_ir : IR :=
  (.lt (.bin .eql (.v 0) (.c (.i .u64 8))) (.ret [(false, [(.v 3)])]))
theorem satp_On_c : compile envIrV 3000 22 = .ok satp_On_ir := by kernel_rfl
theorem satp_On_p : paramShape Tryz.prog 22 = some [(true, 3)] := by kernel_rfl
def atlasref07_May_ir : IR :=
  (.lt (.bin .eql (.v 0) (.c (.i .u64 0))) (.ite (.v 3)
  (.lt (.bin .eql (.v 1) (.c (.i .u64 0))) (.ite (.v 4)
  (.lt (.bin .eql (.v 2) (.c (.i .u64 0))) (.ret [(false, [(.v 5)])]))
  (.ret [(false, [(.c (.b false))])])))
  (.lt (.bin .eql (.v 0) (.c (.i .u64 8))) (.ite (.v 4)
  (.lt (.bin .lss (.v 1) (.c (.i .u64 65536))) (.ite (.v 5)
  (.lt (.bin .lss (.v 2) (.c (.i .u64 17592186044416))) (.ret [(false, [(.v 6)])]))
  (.ret [(false, [(.c (.b false))])])))
  (.ret [(false, [(.c (.b false))])])))))
theorem atlasref07_May_c : compile envIrV 3000 34 = .ok atlasref07_May_ir := by kernel_rfl
theorem atlasref07_May_p : paramShape Tryz.prog 34 = some [(true, 3)] := by kernel_rfl
end Go.Proofs.YtobdkhjaipoliaaGreatDoor.Sx
