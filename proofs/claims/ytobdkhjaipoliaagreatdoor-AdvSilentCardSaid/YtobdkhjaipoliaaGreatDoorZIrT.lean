/-
  IRs of functions, printed by a program of mine (wip/tools/mkir.py, ev.run.lean); each is checked by the kernel against the executor.
-/
import Derived.Test.YtobdkhjaipoliaaGreatDoorZBf
import Derived.Test.YtobdkhjaipoliaaGreatDoorProg
namespace Go.Proofs.YtobdkhjaipoliaaGreatDoor.Sx
open Go
set_option maxRecDepth 100000
def inlenvIrT : List FuncId :=
  93 ::
  121 ::
  []
noncomputable def envIrT : Env := { P := Tryz.prog, G := gAll, inl := inlenvIrT, unr := [], ded := true }
def atlasref14_Right_ir : IR :=
  (.loop [(.c (.b false)), (.c (.i .i64 0))]
  (.lt (.len (.v 0)) (.lt (.bin .lss (.v 2) (.v 3)) (.ite (.v 4)
  (.lt (.bin .lss (.v 2) (.c (.i .i64 17))) (.ite (.v 5)
  (.chk (.inb (.v 0) (.v 2) 45) (.call 66 [(true, (idr (.v 0) (.v 2) 0 45))] [(false, 1)]
  (.lt (.un .not (.v 6)) (.ite (.v 7)
  (.ret [(false, [(.c (.b false))])])
  (.loop [(.v 1), (.c (.i .i64 0))]
  (.lt (.bin .lss (.v 9) (.c (.i .i64 4))) (.ite (.v 10)
  (.chk (.inb (.v 0) (.v 2) 45) (.ite (.bin .eql (.v 9) (.c (.i .i64 0)))
  (.ite (.idx (.v 0) (.v 2) 0)
  (.lt (.len (.v 0)) (.call 67 [(false, [(.v 11)]), (false, [(.idx (.v 0) (.v 2) 4)]), (false, [(.idx (.v 0) (.v 2) 3)])] [(false, 1)]
  (.lt (.bin .neq (.v 12) (.v 2)) (.ite (.v 13)
  (.ret [(false, [(.c (.b false))])])
  (.cont 1 [(.v 8), (.c (.i .i64 1))])))))
  (.cont 1 [(.v 8), (.c (.i .i64 1))]))
  (.ite (.bin .eql (.v 9) (.c (.i .i64 1)))
  (.ite (.idx (.v 0) (.v 2) 11)
  (.lt (.len (.v 0)) (.call 67 [(false, [(.v 11)]), (false, [(.idx (.v 0) (.v 2) 15)]), (false, [(.idx (.v 0) (.v 2) 14)])] [(false, 1)]
  (.lt (.bin .neq (.v 12) (.v 2)) (.ite (.v 13)
  (.ret [(false, [(.c (.b false))])])
  (.cont 1 [(.v 8), (.c (.i .i64 2))])))))
  (.cont 1 [(.v 8), (.c (.i .i64 2))]))
  (.ite (.bin .eql (.v 9) (.c (.i .i64 2)))
  (.ite (.idx (.v 0) (.v 2) 22)
  (.lt (.len (.v 0)) (.call 67 [(false, [(.v 11)]), (false, [(.idx (.v 0) (.v 2) 26)]), (false, [(.idx (.v 0) (.v 2) 25)])] [(false, 1)]
  (.lt (.bin .neq (.v 12) (.v 2)) (.ite (.v 13)
  (.ret [(false, [(.c (.b false))])])
  (.cont 1 [(.v 8), (.c (.i .i64 3))])))))
  (.cont 1 [(.v 8), (.c (.i .i64 3))]))
  (.ite (.bin .eql (.v 9) (.c (.i .i64 3)))
  (.ite (.idx (.v 0) (.v 2) 33)
  (.lt (.len (.v 0)) (.call 67 [(false, [(.v 11)]), (false, [(.idx (.v 0) (.v 2) 37)]), (false, [(.idx (.v 0) (.v 2) 36)])] [(false, 1)]
  (.lt (.bin .neq (.v 12) (.v 2)) (.ite (.v 13)
  (.ret [(false, [(.c (.b false))])])
  (.cont 1 [(.v 8), (.c (.i .i64 4))])))))
  (.cont 1 [(.v 8), (.c (.i .i64 4))]))
  (.chk (.c (.b false)) (.ret [])))))))
  (.lt (.bin .add (.v 2) (.c (.i .i64 1))) (.cont 0 [(.v 8), (.v 11)])))))))))
  (.lt (.len (.v 0)) (.lt (.bin .leq (.v 6) (.c (.i .i64 16))) (.ret [(false, [(.v 7)])])))))
  (.lt (.len (.v 0)) (.lt (.bin .leq (.v 5) (.c (.i .i64 16))) (.ret [(false, [(.v 6)])])))))))
theorem atlasref14_Right_c : compile envIrT 3000 33 = .ok atlasref14_Right_ir := by kernel_rfl
theorem atlasref14_Right_p : paramShape Tryz.prog 33 = some [(true, 1)] := by kernel_rfl
def tlb_Put_ir : IR :=
  (.lt (.len (.v 0)) (.lt (.bin .eql (.v 13) (.c (.i .i64 0))) (.ite (.v 14)
  (.ret [(true, [(.v 0)])])
  (.call 50 [(true, (vr 1 11))] [(false, 1)]
  (.lt (.un .not (.v 15)) (.ite (.v 16)
  (.ret [(true, [(.v 0)])])
  (.lt (.len (.v 0)) (.call 51 [(false, [(.v 17)]), (false, [(.v 5)]), (false, [(.v 4)])] [(false, 1)]
  (.chk (.inb (.v 0) (.v 18) 45) (.call 52 [(true, (idr (.v 0) (.v 18) 0 45)), (true, (vr 1 11)), (false, [(.v 12)])] [(true, 45), (false, 1)]
  (.call 53 [(true, [(.v 0)]), (false, [(.v 18)]), (true, (vr 19 45))] [(true, 1)]
  (.ret [(true, [(.v 65)])]))))))))))))
theorem tlb_Put_c : compile envIrT 3000 25 = .ok tlb_Put_ir := by kernel_rfl
theorem tlb_Put_p : paramShape Tryz.prog 25 = some [(true, 1), (true, 11), (false, 1)] := by kernel_rfl
def tlb_Find_ir : IR :=
  (.lt (.len (.v 0)) (.lt (.bin .eql (.v 3) (.c (.i .i64 0))) (.ite (.v 4)
  (.ret [(true, [(.c (.b false)), (.c (.i .u64 0)), (.c (.b false)), (.c (.i .i64 0)), (.c (.i .u64 0)), (.c (.i .u64 0)), (.c (.b false)), (.c (.b false)), (.c (.b false)), (.c (.b false)), (.c (.b false))]), (false, [(.c (.i .i64 0))]), (false, [(.c (.i .i64 0))]), (false, [(.c (.b false))])])
  (.loop [(.c (.i .i64 0)), (.c (.i .i64 0)), (.c (.b false)), (.c (.i .i64 0))]
  (.lt (.bin .lss (.v 8) (.c (.i .i64 3))) (.ite (.v 9)
  (.lt (.len (.v 0)) (.call 54 [(false, [(.v 2)])] [(false, 1)]
  (.call 51 [(false, [(.v 10)]), (false, [(.v 11)]), (false, [(.v 8)])] [(false, 1)]
  (.chk (.inb (.v 0) (.v 12) 45) (.call 95 [(true, (idr (.v 0) (.v 12) 0 45)), (false, [(.v 1)]), (false, [(.v 2)]), (false, [(.v 8)])] [(false, 1), (false, 1)]
  (.ite (.v 14)
  (.chk (.inb (.v 0) (.v 12) 45) (.ite (.bin .eql (.v 13) (.c (.i .i64 0)))
  (.ret [(true, (idr (.v 0) (.v 12) 0 11)), (false, [(.v 12)]), (false, [(.c (.i .i64 0))]), (false, [(.c (.b true))])])
  (.ite (.bin .eql (.v 13) (.c (.i .i64 1)))
  (.ret [(true, (idr (.v 0) (.v 12) 11 11)), (false, [(.v 12)]), (false, [(.c (.i .i64 1))]), (false, [(.c (.b true))])])
  (.ite (.bin .eql (.v 13) (.c (.i .i64 2)))
  (.ret [(true, (idr (.v 0) (.v 12) 22 11)), (false, [(.v 12)]), (false, [(.c (.i .i64 2))]), (false, [(.c (.b true))])])
  (.ite (.bin .eql (.v 13) (.c (.i .i64 3)))
  (.ret [(true, (idr (.v 0) (.v 12) 33 11)), (false, [(.v 12)]), (false, [(.c (.i .i64 3))]), (false, [(.c (.b true))])])
  (.chk (.c (.b false)) (.ret [])))))))
  (.lt (.bin .add (.v 8) (.c (.i .i64 1))) (.cont 0 [(.v 5), (.v 6), (.v 7), (.v 15)]))))))))
  (.ret [(true, [(.c (.b false)), (.c (.i .u64 0)), (.c (.b false)), (.c (.i .i64 0)), (.c (.i .u64 0)), (.c (.i .u64 0)), (.c (.b false)), (.c (.b false)), (.c (.b false)), (.c (.b false)), (.c (.b false))]), (false, [(.c (.i .i64 0))]), (false, [(.c (.i .i64 0))]), (false, [(.c (.b false))])])))))))
theorem tlb_Find_c : compile envIrT 3000 59 = .ok tlb_Find_ir := by kernel_rfl
theorem tlb_Find_p : paramShape Tryz.prog 59 = some [(true, 1), (false, 1), (false, 1)] := by kernel_rfl
def atlasref14_Same_ir : IR :=
  (.lt (.len (.v 0)) (.lt (.len (.v 1)) (.lt (.bin .neq (.v 2) (.v 3)) (.ite (.v 4)
  (.ret [(false, [(.c (.b false))])])
  (.loop [(.c (.b false)), (.c (.i .i64 0))]
  (.lt (.len (.v 0)) (.lt (.bin .lss (.v 6) (.v 7)) (.ite (.v 8)
  (.chk (.inb (.v 0) (.v 6) 45) (.chk (.inb (.v 1) (.v 6) 45) (.lt (.un .not (.ite (.eqt true (.idx (.v 0) (.v 6) 0) (.idx (.v 1) (.v 6) 0)) (.ite (.eqt false (.idx (.v 0) (.v 6) 1) (.idx (.v 1) (.v 6) 1)) (.ite (.eqt true (.idx (.v 0) (.v 6) 2) (.idx (.v 1) (.v 6) 2)) (.ite (.eqt false (.idx (.v 0) (.v 6) 3) (.idx (.v 1) (.v 6) 3)) (.ite (.eqt false (.idx (.v 0) (.v 6) 4) (.idx (.v 1) (.v 6) 4)) (.ite (.eqt false (.idx (.v 0) (.v 6) 5) (.idx (.v 1) (.v 6) 5)) (.ite (.eqt true (.idx (.v 0) (.v 6) 6) (.idx (.v 1) (.v 6) 6)) (.ite (.eqt true (.idx (.v 0) (.v 6) 7) (.idx (.v 1) (.v 6) 7)) (.ite (.eqt true (.idx (.v 0) (.v 6) 8) (.idx (.v 1) (.v 6) 8)) (.ite (.eqt true (.idx (.v 0) (.v 6) 9) (.idx (.v 1) (.v 6) 9)) (.ite (.eqt true (.idx (.v 0) (.v 6) 10) (.idx (.v 1) (.v 6) 10)) (.ite (.eqt true (.idx (.v 0) (.v 6) 11) (.idx (.v 1) (.v 6) 11)) (.ite (.eqt false (.idx (.v 0) (.v 6) 12) (.idx (.v 1) (.v 6) 12)) (.ite (.eqt true (.idx (.v 0) (.v 6) 13) (.idx (.v 1) (.v 6) 13)) (.ite (.eqt false (.idx (.v 0) (.v 6) 14) (.idx (.v 1) (.v 6) 14)) (.ite (.eqt false (.idx (.v 0) (.v 6) 15) (.idx (.v 1) (.v 6) 15)) (.ite (.eqt false (.idx (.v 0) (.v 6) 16) (.idx (.v 1) (.v 6) 16)) (.ite (.eqt true (.idx (.v 0) (.v 6) 17) (.idx (.v 1) (.v 6) 17)) (.ite (.eqt true (.idx (.v 0) (.v 6) 18) (.idx (.v 1) (.v 6) 18)) (.ite (.eqt true (.idx (.v 0) (.v 6) 19) (.idx (.v 1) (.v 6) 19)) (.ite (.eqt true (.idx (.v 0) (.v 6) 20) (.idx (.v 1) (.v 6) 20)) (.ite (.eqt true (.idx (.v 0) (.v 6) 21) (.idx (.v 1) (.v 6) 21)) (.ite (.eqt true (.idx (.v 0) (.v 6) 22) (.idx (.v 1) (.v 6) 22)) (.ite (.eqt false (.idx (.v 0) (.v 6) 23) (.idx (.v 1) (.v 6) 23)) (.ite (.eqt true (.idx (.v 0) (.v 6) 24) (.idx (.v 1) (.v 6) 24)) (.ite (.eqt false (.idx (.v 0) (.v 6) 25) (.idx (.v 1) (.v 6) 25)) (.ite (.eqt false (.idx (.v 0) (.v 6) 26) (.idx (.v 1) (.v 6) 26)) (.ite (.eqt false (.idx (.v 0) (.v 6) 27) (.idx (.v 1) (.v 6) 27)) (.ite (.eqt true (.idx (.v 0) (.v 6) 28) (.idx (.v 1) (.v 6) 28)) (.ite (.eqt true (.idx (.v 0) (.v 6) 29) (.idx (.v 1) (.v 6) 29)) (.ite (.eqt true (.idx (.v 0) (.v 6) 30) (.idx (.v 1) (.v 6) 30)) (.ite (.eqt true (.idx (.v 0) (.v 6) 31) (.idx (.v 1) (.v 6) 31)) (.ite (.eqt true (.idx (.v 0) (.v 6) 32) (.idx (.v 1) (.v 6) 32)) (.ite (.eqt true (.idx (.v 0) (.v 6) 33) (.idx (.v 1) (.v 6) 33)) (.ite (.eqt false (.idx (.v 0) (.v 6) 34) (.idx (.v 1) (.v 6) 34)) (.ite (.eqt true (.idx (.v 0) (.v 6) 35) (.idx (.v 1) (.v 6) 35)) (.ite (.eqt false (.idx (.v 0) (.v 6) 36) (.idx (.v 1) (.v 6) 36)) (.ite (.eqt false (.idx (.v 0) (.v 6) 37) (.idx (.v 1) (.v 6) 37)) (.ite (.eqt false (.idx (.v 0) (.v 6) 38) (.idx (.v 1) (.v 6) 38)) (.ite (.eqt true (.idx (.v 0) (.v 6) 39) (.idx (.v 1) (.v 6) 39)) (.ite (.eqt true (.idx (.v 0) (.v 6) 40) (.idx (.v 1) (.v 6) 40)) (.ite (.eqt true (.idx (.v 0) (.v 6) 41) (.idx (.v 1) (.v 6) 41)) (.ite (.eqt true (.idx (.v 0) (.v 6) 42) (.idx (.v 1) (.v 6) 42)) (.ite (.eqt true (.idx (.v 0) (.v 6) 43) (.idx (.v 1) (.v 6) 43)) (.ite (.eqt false (.idx (.v 0) (.v 6) 44) (.idx (.v 1) (.v 6) 44)) (.c (.b true)) (.c (.b false))) (.c (.b false))) (.c (.b false))) (.c (.b false))) (.c (.b false))) (.c (.b false))) (.c (.b false))) (.c (.b false))) (.c (.b false))) (.c (.b false))) (.c (.b false))) (.c (.b false))) (.c (.b false))) (.c (.b false))) (.c (.b false))) (.c (.b false))) (.c (.b false))) (.c (.b false))) (.c (.b false))) (.c (.b false))) (.c (.b false))) (.c (.b false))) (.c (.b false))) (.c (.b false))) (.c (.b false))) (.c (.b false))) (.c (.b false))) (.c (.b false))) (.c (.b false))) (.c (.b false))) (.c (.b false))) (.c (.b false))) (.c (.b false))) (.c (.b false))) (.c (.b false))) (.c (.b false))) (.c (.b false))) (.c (.b false))) (.c (.b false))) (.c (.b false))) (.c (.b false))) (.c (.b false))) (.c (.b false))) (.c (.b false))) (.c (.b false)))) (.ite (.v 9)
  (.ret [(false, [(.c (.b false))])])
  (.lt (.bin .add (.v 6) (.c (.i .i64 1))) (.cont 0 [(.v 5), (.v 10)]))))))
  (.ret [(false, [(.c (.b true))])])))))))))
theorem atlasref14_Same_c : compile envIrT 3000 32 = .ok atlasref14_Same_ir := by kernel_rfl
theorem atlasref14_Same_p : paramShape Tryz.prog 32 = some [(true, 1), (true, 1)] := by kernel_rfl
def tlb_Drop_ir : IR :=
  (.lt (.bin .lss (.v 1) (.c (.i .i64 0))) (.ite (.v 3)
  (.ret [(true, [(.v 0)]), (false, [(.c (.i .i64 1))])])
  (.lt (.len (.v 0)) (.lt (.bin .geq (.v 1) (.v 4)) (.ite (.v 5)
  (.ret [(true, [(.v 0)]), (false, [(.c (.i .i64 1))])])
  (.lt (.bin .lss (.v 2) (.c (.i .i64 0))) (.ite (.v 6)
  (.ret [(true, [(.v 0)]), (false, [(.c (.i .i64 1))])])
  (.lt (.bin .geq (.v 2) (.c (.i .i64 4))) (.ite (.v 7)
  (.ret [(true, [(.v 0)]), (false, [(.c (.i .i64 1))])])
  (.chk (.inb (.v 0) (.v 1) 45) (.call 57 [(true, (idr (.v 0) (.v 1) 0 45)), (false, [(.v 2)])] [(true, 45)]
  (.call 53 [(true, [(.v 0)]), (false, [(.v 1)]), (true, (vr 8 45))] [(true, 1)]
  (.ret [(true, [(.v 53)]), (false, [(.c (.i .i64 0))])])))))))))))))
theorem tlb_Drop_c : compile envIrT 3000 27 = .ok tlb_Drop_ir := by kernel_rfl
theorem tlb_Drop_p : paramShape Tryz.prog 27 = some [(true, 1), (false, 1), (false, 1)] := by kernel_rfl
def tlb_Use_ir : IR :=
  (.chk (.inb (.v 0) (.v 1) 45) (.call 92 [(true, (idr (.v 0) (.v 1) 0 45)), (false, [(.v 2)])] [(true, 45)]
  (.call 53 [(true, [(.v 0)]), (false, [(.v 1)]), (true, (vr 3 45))] [(true, 1)]
  (.ret [(true, [(.v 48)])]))))
theorem tlb_Use_c : compile envIrT 3000 61 = .ok tlb_Use_ir := by kernel_rfl
theorem tlb_Use_p : paramShape Tryz.prog 61 = some [(true, 1), (false, 1), (false, 1)] := by kernel_rfl
def atlasref14_All_ir : IR :=
  (.loop [(.c (.i .i64 0)), (.c (.sl 0 []))]
  (.lt (.len (.v 0)) (.lt (.bin .lss (.v 1) (.v 3)) (.ite (.v 4)
  (.loop [(.c (.i .i64 0)), (.v 2)]
  (.lt (.bin .lss (.v 5) (.c (.i .i64 4))) (.ite (.v 7)
  (.chk (.inb (.v 0) (.v 1) 45) (.ite (.bin .eql (.v 5) (.c (.i .i64 0)))
  (.ite (.idx (.v 0) (.v 1) 0)
  (.chk (.inb (.v 0) (.v 1) 45) (.chk (.room (.len (.app 11 (.v 6) (.one (idr (.v 0) (.v 1) 0 11)))) 57) (.cont 1 [(.c (.i .i64 1)), (.app 11 (.v 6) (.one (idr (.v 0) (.v 1) 0 11)))])))
  (.cont 1 [(.c (.i .i64 1)), (.v 6)]))
  (.ite (.bin .eql (.v 5) (.c (.i .i64 1)))
  (.ite (.idx (.v 0) (.v 1) 11)
  (.chk (.inb (.v 0) (.v 1) 45) (.chk (.room (.len (.app 11 (.v 6) (.one (idr (.v 0) (.v 1) 11 11)))) 57) (.cont 1 [(.c (.i .i64 2)), (.app 11 (.v 6) (.one (idr (.v 0) (.v 1) 11 11)))])))
  (.cont 1 [(.c (.i .i64 2)), (.v 6)]))
  (.ite (.bin .eql (.v 5) (.c (.i .i64 2)))
  (.ite (.idx (.v 0) (.v 1) 22)
  (.chk (.inb (.v 0) (.v 1) 45) (.chk (.room (.len (.app 11 (.v 6) (.one (idr (.v 0) (.v 1) 22 11)))) 57) (.cont 1 [(.c (.i .i64 3)), (.app 11 (.v 6) (.one (idr (.v 0) (.v 1) 22 11)))])))
  (.cont 1 [(.c (.i .i64 3)), (.v 6)]))
  (.ite (.bin .eql (.v 5) (.c (.i .i64 3)))
  (.ite (.idx (.v 0) (.v 1) 33)
  (.chk (.inb (.v 0) (.v 1) 45) (.chk (.room (.len (.app 11 (.v 6) (.one (idr (.v 0) (.v 1) 33 11)))) 57) (.cont 1 [(.c (.i .i64 4)), (.app 11 (.v 6) (.one (idr (.v 0) (.v 1) 33 11)))])))
  (.cont 1 [(.c (.i .i64 4)), (.v 6)]))
  (.chk (.c (.b false)) (.ret [])))))))
  (.lt (.bin .add (.v 1) (.c (.i .i64 1))) (.cont 0 [(.v 8), (.v 6)])))))
  (.ret [(false, [(.v 2)])])))))
theorem atlasref14_All_c : compile envIrT 3000 13 = .ok atlasref14_All_ir := by kernel_rfl
theorem atlasref14_All_p : paramShape Tryz.prog 13 = some [(true, 1)] := by kernel_rfl
def atlasref14_Index_ir : IR :=
  (.call 98 [(false, [(.v 2)])] [(false, 1)]
  (.lt (.bin .quo (.v 1) (.v 3)) (.lt (.cv .u64 (.v 0)) (.lt (.bin .rem (.v 4) (.v 5)) (.lt (.cv .i64 (.v 6)) (.ret [(false, [(.v 7)])]))))))
theorem atlasref14_Index_c : compile envIrT 3000 67 = .ok atlasref14_Index_ir := by kernel_rfl
theorem atlasref14_Index_p : paramShape Tryz.prog 67 = some [(false, 1), (false, 1), (false, 1)] := by kernel_rfl
def tlb_index_ir : IR :=
  (.call 82 [(false, [(.v 2)])] [(false, 1)]
  (.lt (.bin .quo (.v 3) (.c (.i .u64 4096))) (.lt (.bin .quo (.v 1) (.v 4)) (.lt (.cv .u64 (.v 0)) (.lt (.bin .rem (.v 5) (.v 6)) (.lt (.cv .i64 (.v 7)) (.ret [(false, [(.v 8)])])))))))
theorem tlb_index_c : compile envIrT 3000 51 = .ok tlb_index_ir := by kernel_rfl
theorem tlb_index_p : paramShape Tryz.prog 51 = some [(false, 1), (false, 1), (false, 1)] := by kernel_rfl
def tlb_with_ir : IR :=
  (.may (.bin .eql (.len (.v 0)) (.c (.i .i64 0)))
  (.chk (.inb (.c (.sl 0 [])) (.v 1) 45) (.chk (.c (.b false)) (.ret [])))
  (.chk (.room (.len (.app 45 (.c (.sl 45 [])) (.v 0))) 233) (.chk (.inb (.app 45 (.c (.sl 45 [])) (.v 0)) (.v 1) 45) (.chk (.inb (.app 45 (.c (.sl 45 [])) (.v 0)) (.v 1) 45) (.ret [(true, [(.put (.app 45 (.c (.sl 45 [])) (.v 0)) (.v 1) 0 (vr 2 45))])])))))
theorem tlb_with_c : compile envIrT 3000 53 = .ok tlb_with_ir := by kernel_rfl
theorem tlb_with_p : paramShape Tryz.prog 53 = some [(true, 1), (false, 1), (true, 45)] := by kernel_rfl
end Go.Proofs.YtobdkhjaipoliaaGreatDoor.Sx
