/-
  IRs of functions, printed by a program of mine (wip/tools/mkir.py, ev.run.lean); each is checked by the kernel against the executor.
-/
import Derived.Test.YtobdkhjaipoliaaGreatDoorZBf
import Derived.Test.YtobdkhjaipoliaaGreatDoorProg
namespace Go.Proofs.YtobdkhjaipoliaaGreatDoor.Sx
open Go
set_option maxRecDepth 100000
def inlenvIrS : List FuncId :=
  111 ::
  121 ::
  115 ::
  112 ::
  []
def unrenvIrS : List FuncId :=
  121 ::
  []
noncomputable def envIrS : Env := { P := Tryz.prog, G := gAll, inl := inlenvIrS, unr := unrenvIrS }
def plru_Victim_ir : IR :=
  (.call 122 [(false, [(.v 0)]), (false, [(.c (.i .u8 1))])] [(false, 1)]
  (.lt (.bin .eql (.v 1) (.c (.i .i64 0))) (.ite (.v 2)
  (.call 122 [(false, [(.v 0)]), (false, [(.c (.i .u8 2))])] [(false, 1)]
  (.ret [(false, [(.v 3)])]))
  (.call 122 [(false, [(.v 0)]), (false, [(.c (.i .u8 4))])] [(false, 1)]
  (.lt (.bin .add (.c (.i .i64 2)) (.v 3)) (.ret [(false, [(.v 4)])]))))))
theorem plru_Victim_c : compile envIrS 3000 113 = .ok plru_Victim_ir := by kernel_rfl
theorem plru_Victim_p : paramShape Tryz.prog 113 = some [(false, 1)] := by kernel_rfl
theorem plru_Victim_k : Known gAll 113 (.ir [(false, 1)] plru_Victim_ir) := known_ir (E := envIrS) (n := 3000) rfl rfl plru_Victim_c plru_Victim_p
def plru_Touch_ir : IR :=
  (.chk (.rng (.v 1) 4) (.lt (.bin .andNot (.v 0) (selE (.v 1) 0 [(.c (.i .u8 0)), (.c (.i .u8 2)), (.c (.i .u8 1)), (.c (.i .u8 5))])) (.lt (.bin .or (.v 2) (selE (.v 1) 0 [(.c (.i .u8 3)), (.c (.i .u8 1)), (.c (.i .u8 4)), (.c (.i .u8 0))])) (.ret [(false, [(.v 3)])]))))
theorem plru_Touch_c : compile envIrS 3000 114 = .ok plru_Touch_ir := by kernel_rfl
theorem plru_Touch_p : paramShape Tryz.prog 114 = some [(false, 1), (false, 1)] := by kernel_rfl
theorem plru_Touch_k : Known gAll 114 (.ir [(false, 1), (false, 1)] plru_Touch_ir) := known_ir (E := envIrS) (n := 3000) rfl rfl plru_Touch_c plru_Touch_p
def atlasref13_Right_ir : IR :=
  (.loop [(.c (.b false)), (.c (.i .i64 0))]
  (.lt (.bin .lss (.v 46) (.c (.i .i64 4))) (.ite (.v 47)
  (.chk (.rng (.v 46) 4) (.call 97 [(true, (selR 46 [0, 11, 22, 33] 11))] [(false, 1)]
  (.lt (.un .not (.v 48)) (.ite (.v 49)
  (.ret [(false, [(.c (.b false))])])
  (.lt (.bin .add (.v 46) (.c (.i .i64 1))) (.cont 0 [(.v 45), (.v 50)]))))))
  (.lt (.bin .lss (.v 44) (.c (.i .u8 8))) (.ret [(false, [(.v 48)])])))))
theorem atlasref13_Right_c : compile envIrS 3000 66 = .ok atlasref13_Right_ir := by kernel_rfl
theorem atlasref13_Right_p : paramShape Tryz.prog 66 = some [(true, 45)] := by kernel_rfl
theorem atlasref13_Right_k : Known gAll 66 (.ir [(true, 45)] atlasref13_Right_ir) := known_ir (E := envIrS) (n := 3000) rfl rfl atlasref13_Right_c atlasref13_Right_p
def atlasref12_May_ir : IR :=
  (.lt (.un .not (.v 0)) (.ite (.v 11)
  (.lt (.ite (.eqt true (.v 0) (.c (.b false))) (.ite (.eqt false (.v 1) (.c (.i .u64 0))) (.ite (.eqt true (.v 2) (.c (.b false))) (.ite (.eqt false (.v 3) (.c (.i .i64 0))) (.ite (.eqt false (.v 4) (.c (.i .u64 0))) (.ite (.eqt false (.v 5) (.c (.i .u64 0))) (.ite (.eqt true (.v 6) (.c (.b false))) (.ite (.eqt true (.v 7) (.c (.b false))) (.ite (.eqt true (.v 8) (.c (.b false))) (.ite (.eqt true (.v 9) (.c (.b false))) (.ite (.eqt true (.v 10) (.c (.b false))) (.c (.b true)) (.c (.b false))) (.c (.b false))) (.c (.b false))) (.c (.b false))) (.c (.b false))) (.c (.b false))) (.c (.b false))) (.c (.b false))) (.c (.b false))) (.c (.b false))) (.c (.b false))) (.ret [(false, [(.v 12)])]))
  (.lt (.bin .neq (.v 3) (.c (.i .i64 0))) (.ite (.v 12)
  (.lt (.bin .neq (.v 3) (.c (.i .i64 1))) (.ite (.v 13)
  (.lt (.bin .neq (.v 3) (.c (.i .i64 2))) (.ite (.v 14)
  (.ret [(false, [(.c (.b false))])])
  (.call 98 [(false, [(.v 3)])] [(false, 1)]
  (.lt (.bin .lss (.v 4) (.c (.i .u64 134217728))) (.ite (.v 16)
  (.lt (.bin .lss (.v 5) (.c (.i .u64 17592186044416))) (.ite (.v 17)
  (.lt (.bin .lss (.v 1) (.c (.i .u64 65536))) (.ite (.v 18)
  (.lt (.bin .rem (.v 4) (.v 15)) (.lt (.bin .eql (.v 19) (.c (.i .u64 0))) (.ite (.v 20)
  (.lt (.bin .rem (.v 5) (.v 15)) (.lt (.bin .eql (.v 21) (.c (.i .u64 0))) (.ret [(false, [(.v 22)])])))
  (.ret [(false, [(.c (.b false))])]))))
  (.ret [(false, [(.c (.b false))])])))
  (.ret [(false, [(.c (.b false))])])))
  (.ret [(false, [(.c (.b false))])]))))))
  (.call 98 [(false, [(.v 3)])] [(false, 1)]
  (.lt (.bin .lss (.v 4) (.c (.i .u64 134217728))) (.ite (.v 15)
  (.lt (.bin .lss (.v 5) (.c (.i .u64 17592186044416))) (.ite (.v 16)
  (.lt (.bin .lss (.v 1) (.c (.i .u64 65536))) (.ite (.v 17)
  (.lt (.bin .rem (.v 4) (.v 14)) (.lt (.bin .eql (.v 18) (.c (.i .u64 0))) (.ite (.v 19)
  (.lt (.bin .rem (.v 5) (.v 14)) (.lt (.bin .eql (.v 20) (.c (.i .u64 0))) (.ret [(false, [(.v 21)])])))
  (.ret [(false, [(.c (.b false))])]))))
  (.ret [(false, [(.c (.b false))])])))
  (.ret [(false, [(.c (.b false))])])))
  (.ret [(false, [(.c (.b false))])]))))))
  (.call 98 [(false, [(.v 3)])] [(false, 1)]
  (.lt (.bin .lss (.v 4) (.c (.i .u64 134217728))) (.ite (.v 14)
  (.lt (.bin .lss (.v 5) (.c (.i .u64 17592186044416))) (.ite (.v 15)
  (.lt (.bin .lss (.v 1) (.c (.i .u64 65536))) (.ite (.v 16)
  (.lt (.bin .rem (.v 4) (.v 13)) (.lt (.bin .eql (.v 17) (.c (.i .u64 0))) (.ite (.v 18)
  (.lt (.bin .rem (.v 5) (.v 13)) (.lt (.bin .eql (.v 19) (.c (.i .u64 0))) (.ret [(false, [(.v 20)])])))
  (.ret [(false, [(.c (.b false))])]))))
  (.ret [(false, [(.c (.b false))])])))
  (.ret [(false, [(.c (.b false))])])))
  (.ret [(false, [(.c (.b false))])]))))))))
theorem atlasref12_May_c : compile envIrS 3000 97 = .ok atlasref12_May_ir := by kernel_rfl
theorem atlasref12_May_p : paramShape Tryz.prog 97 = some [(true, 11)] := by kernel_rfl
theorem atlasref12_May_k : Known gAll 97 (.ir [(true, 11)] atlasref12_May_ir) := known_ir (E := envIrS) (n := 3000) rfl rfl atlasref12_May_c atlasref12_May_p
def set_Find_ir : IR :=
  (.lt (.bin .eql (.v 3) (.v 47)) (.ite (.v 48)
  (.call 116 [(true, (vr 0 11)), (false, [(.v 45)]), (false, [(.v 46)])] [(false, 1)]
  (.ite (.v 49)
  (.ret [(false, [(.c (.i .i64 0))]), (false, [(.c (.b true))])])
  (.lt (.bin .eql (.v 14) (.v 47)) (.ite (.v 50)
  (.call 116 [(true, (vr 11 11)), (false, [(.v 45)]), (false, [(.v 46)])] [(false, 1)]
  (.ite (.v 51)
  (.ret [(false, [(.c (.i .i64 1))]), (false, [(.c (.b true))])])
  (.lt (.bin .eql (.v 25) (.v 47)) (.ite (.v 52)
  (.call 116 [(true, (vr 22 11)), (false, [(.v 45)]), (false, [(.v 46)])] [(false, 1)]
  (.ite (.v 53)
  (.ret [(false, [(.c (.i .i64 2))]), (false, [(.c (.b true))])])
  (.lt (.bin .eql (.v 36) (.v 47)) (.ite (.v 54)
  (.call 116 [(true, (vr 33 11)), (false, [(.v 45)]), (false, [(.v 46)])] [(false, 1)]
  (.ite (.v 55)
  (.ret [(false, [(.c (.i .i64 3))]), (false, [(.c (.b true))])])
  (.ret [(false, [(.c (.i .i64 0))]), (false, [(.c (.b false))])])))
  (.ret [(false, [(.c (.i .i64 0))]), (false, [(.c (.b false))])])))))
  (.lt (.bin .eql (.v 36) (.v 47)) (.ite (.v 53)
  (.call 116 [(true, (vr 33 11)), (false, [(.v 45)]), (false, [(.v 46)])] [(false, 1)]
  (.ite (.v 54)
  (.ret [(false, [(.c (.i .i64 3))]), (false, [(.c (.b true))])])
  (.ret [(false, [(.c (.i .i64 0))]), (false, [(.c (.b false))])])))
  (.ret [(false, [(.c (.i .i64 0))]), (false, [(.c (.b false))])])))))))
  (.lt (.bin .eql (.v 25) (.v 47)) (.ite (.v 51)
  (.call 116 [(true, (vr 22 11)), (false, [(.v 45)]), (false, [(.v 46)])] [(false, 1)]
  (.ite (.v 52)
  (.ret [(false, [(.c (.i .i64 2))]), (false, [(.c (.b true))])])
  (.lt (.bin .eql (.v 36) (.v 47)) (.ite (.v 53)
  (.call 116 [(true, (vr 33 11)), (false, [(.v 45)]), (false, [(.v 46)])] [(false, 1)]
  (.ite (.v 54)
  (.ret [(false, [(.c (.i .i64 3))]), (false, [(.c (.b true))])])
  (.ret [(false, [(.c (.i .i64 0))]), (false, [(.c (.b false))])])))
  (.ret [(false, [(.c (.i .i64 0))]), (false, [(.c (.b false))])])))))
  (.lt (.bin .eql (.v 36) (.v 47)) (.ite (.v 52)
  (.call 116 [(true, (vr 33 11)), (false, [(.v 45)]), (false, [(.v 46)])] [(false, 1)]
  (.ite (.v 53)
  (.ret [(false, [(.c (.i .i64 3))]), (false, [(.c (.b true))])])
  (.ret [(false, [(.c (.i .i64 0))]), (false, [(.c (.b false))])])))
  (.ret [(false, [(.c (.i .i64 0))]), (false, [(.c (.b false))])])))))))))
  (.lt (.bin .eql (.v 14) (.v 47)) (.ite (.v 49)
  (.call 116 [(true, (vr 11 11)), (false, [(.v 45)]), (false, [(.v 46)])] [(false, 1)]
  (.ite (.v 50)
  (.ret [(false, [(.c (.i .i64 1))]), (false, [(.c (.b true))])])
  (.lt (.bin .eql (.v 25) (.v 47)) (.ite (.v 51)
  (.call 116 [(true, (vr 22 11)), (false, [(.v 45)]), (false, [(.v 46)])] [(false, 1)]
  (.ite (.v 52)
  (.ret [(false, [(.c (.i .i64 2))]), (false, [(.c (.b true))])])
  (.lt (.bin .eql (.v 36) (.v 47)) (.ite (.v 53)
  (.call 116 [(true, (vr 33 11)), (false, [(.v 45)]), (false, [(.v 46)])] [(false, 1)]
  (.ite (.v 54)
  (.ret [(false, [(.c (.i .i64 3))]), (false, [(.c (.b true))])])
  (.ret [(false, [(.c (.i .i64 0))]), (false, [(.c (.b false))])])))
  (.ret [(false, [(.c (.i .i64 0))]), (false, [(.c (.b false))])])))))
  (.lt (.bin .eql (.v 36) (.v 47)) (.ite (.v 52)
  (.call 116 [(true, (vr 33 11)), (false, [(.v 45)]), (false, [(.v 46)])] [(false, 1)]
  (.ite (.v 53)
  (.ret [(false, [(.c (.i .i64 3))]), (false, [(.c (.b true))])])
  (.ret [(false, [(.c (.i .i64 0))]), (false, [(.c (.b false))])])))
  (.ret [(false, [(.c (.i .i64 0))]), (false, [(.c (.b false))])])))))))
  (.lt (.bin .eql (.v 25) (.v 47)) (.ite (.v 50)
  (.call 116 [(true, (vr 22 11)), (false, [(.v 45)]), (false, [(.v 46)])] [(false, 1)]
  (.ite (.v 51)
  (.ret [(false, [(.c (.i .i64 2))]), (false, [(.c (.b true))])])
  (.lt (.bin .eql (.v 36) (.v 47)) (.ite (.v 52)
  (.call 116 [(true, (vr 33 11)), (false, [(.v 45)]), (false, [(.v 46)])] [(false, 1)]
  (.ite (.v 53)
  (.ret [(false, [(.c (.i .i64 3))]), (false, [(.c (.b true))])])
  (.ret [(false, [(.c (.i .i64 0))]), (false, [(.c (.b false))])])))
  (.ret [(false, [(.c (.i .i64 0))]), (false, [(.c (.b false))])])))))
  (.lt (.bin .eql (.v 36) (.v 47)) (.ite (.v 51)
  (.call 116 [(true, (vr 33 11)), (false, [(.v 45)]), (false, [(.v 46)])] [(false, 1)]
  (.ite (.v 52)
  (.ret [(false, [(.c (.i .i64 3))]), (false, [(.c (.b true))])])
  (.ret [(false, [(.c (.i .i64 0))]), (false, [(.c (.b false))])])))
  (.ret [(false, [(.c (.i .i64 0))]), (false, [(.c (.b false))])])))))))))
theorem set_Find_c : compile envIrS 3000 95 = .ok set_Find_ir := by kernel_rfl
theorem set_Find_p : paramShape Tryz.prog 95 = some [(true, 45), (false, 1), (false, 1), (false, 1)] := by kernel_rfl
theorem set_Find_k : Known gAll 95 (.ir [(true, 45), (false, 1), (false, 1), (false, 1)] set_Find_ir) := known_ir (E := envIrS) (n := 3000) rfl rfl set_Find_c set_Find_p
def set_Use_ir : IR :=
  (.call 114 [(false, [(.v 44)]), (false, [(.v 45)])] [(false, 1)]
  (.ret [(true, (vr 0 44 ++ [(.v 46)]))]))
theorem set_Use_c : compile envIrS 3000 92 = .ok set_Use_ir := by kernel_rfl
theorem set_Use_p : paramShape Tryz.prog 92 = some [(true, 45), (false, 1)] := by kernel_rfl
theorem set_Use_k : Known gAll 92 (.ir [(true, 45), (false, 1)] set_Use_ir) := known_ir (E := envIrS) (n := 3000) rfl rfl set_Use_c set_Use_p
def set_Drop_ir : IR :=
  (.chk (.rng (.v 45) 4) (.ret [(true, [(.ite (.isk (.v 45) 0) (.c (.b false)) (.v 0)), (.ite (.isk (.v 45) 0) (.c (.i .u64 0)) (.v 1)), (.ite (.isk (.v 45) 0) (.c (.b false)) (.v 2)), (.ite (.isk (.v 45) 0) (.c (.i .i64 0)) (.v 3)), (.ite (.isk (.v 45) 0) (.c (.i .u64 0)) (.v 4)), (.ite (.isk (.v 45) 0) (.c (.i .u64 0)) (.v 5)), (.ite (.isk (.v 45) 0) (.c (.b false)) (.v 6)), (.ite (.isk (.v 45) 0) (.c (.b false)) (.v 7)), (.ite (.isk (.v 45) 0) (.c (.b false)) (.v 8)), (.ite (.isk (.v 45) 0) (.c (.b false)) (.v 9)), (.ite (.isk (.v 45) 0) (.c (.b false)) (.v 10)), (.ite (.isk (.v 45) 1) (.c (.b false)) (.v 11)), (.ite (.isk (.v 45) 1) (.c (.i .u64 0)) (.v 12)), (.ite (.isk (.v 45) 1) (.c (.b false)) (.v 13)), (.ite (.isk (.v 45) 1) (.c (.i .i64 0)) (.v 14)), (.ite (.isk (.v 45) 1) (.c (.i .u64 0)) (.v 15)), (.ite (.isk (.v 45) 1) (.c (.i .u64 0)) (.v 16)), (.ite (.isk (.v 45) 1) (.c (.b false)) (.v 17)), (.ite (.isk (.v 45) 1) (.c (.b false)) (.v 18)), (.ite (.isk (.v 45) 1) (.c (.b false)) (.v 19)), (.ite (.isk (.v 45) 1) (.c (.b false)) (.v 20)), (.ite (.isk (.v 45) 1) (.c (.b false)) (.v 21)), (.ite (.isk (.v 45) 2) (.c (.b false)) (.v 22)), (.ite (.isk (.v 45) 2) (.c (.i .u64 0)) (.v 23)), (.ite (.isk (.v 45) 2) (.c (.b false)) (.v 24)), (.ite (.isk (.v 45) 2) (.c (.i .i64 0)) (.v 25)), (.ite (.isk (.v 45) 2) (.c (.i .u64 0)) (.v 26)), (.ite (.isk (.v 45) 2) (.c (.i .u64 0)) (.v 27)), (.ite (.isk (.v 45) 2) (.c (.b false)) (.v 28)), (.ite (.isk (.v 45) 2) (.c (.b false)) (.v 29)), (.ite (.isk (.v 45) 2) (.c (.b false)) (.v 30)), (.ite (.isk (.v 45) 2) (.c (.b false)) (.v 31)), (.ite (.isk (.v 45) 2) (.c (.b false)) (.v 32)), (.ite (.isk (.v 45) 3) (.c (.b false)) (.v 33)), (.ite (.isk (.v 45) 3) (.c (.i .u64 0)) (.v 34)), (.ite (.isk (.v 45) 3) (.c (.b false)) (.v 35)), (.ite (.isk (.v 45) 3) (.c (.i .i64 0)) (.v 36)), (.ite (.isk (.v 45) 3) (.c (.i .u64 0)) (.v 37)), (.ite (.isk (.v 45) 3) (.c (.i .u64 0)) (.v 38)), (.ite (.isk (.v 45) 3) (.c (.b false)) (.v 39)), (.ite (.isk (.v 45) 3) (.c (.b false)) (.v 40)), (.ite (.isk (.v 45) 3) (.c (.b false)) (.v 41)), (.ite (.isk (.v 45) 3) (.c (.b false)) (.v 42)), (.ite (.isk (.v 45) 3) (.c (.b false)) (.v 43)), (.v 44)])]))
theorem set_Drop_c : compile envIrS 3000 57 = .ok set_Drop_ir := by kernel_rfl
theorem set_Drop_p : paramShape Tryz.prog 57 = some [(true, 45), (false, 1)] := by kernel_rfl
theorem set_Drop_k : Known gAll 57 (.ir [(true, 45), (false, 1)] set_Drop_ir) := known_ir (E := envIrS) (n := 3000) rfl rfl set_Drop_c set_Drop_p
def set_Same_ir : IR :=
  (.lt (.un .not (.v 0)) (.ite (.v 22)
  (.ret [(false, [(.c (.b false))])])
  (.lt (.un .not (.v 11)) (.ite (.v 23)
  (.ret [(false, [(.c (.b false))])])
  (.lt (.bin .neq (.v 3) (.v 14)) (.ite (.v 24)
  (.ret [(false, [(.c (.b false))])])
  (.lt (.bin .neq (.v 4) (.v 15)) (.ite (.v 25)
  (.ret [(false, [(.c (.b false))])])
  (.ite (.v 2)
  (.ret [(false, [(.c (.b true))])])
  (.ite (.v 13)
  (.ret [(false, [(.c (.b true))])])
  (.lt (.bin .eql (.v 1) (.v 12)) (.ret [(false, [(.v 26)])]))))))))))))
theorem set_Same_c : compile envIrS 3000 90 = .ok set_Same_ir := by kernel_rfl
theorem set_Same_p : paramShape Tryz.prog 90 = some [(true, 11), (true, 11)] := by kernel_rfl
theorem set_Same_k : Known gAll 90 (.ir [(true, 11), (true, 11)] set_Same_ir) := known_ir (E := envIrS) (n := 3000) rfl rfl set_Same_c set_Same_p
def set_Put_ir : IR :=
  (.loop ([(.c (.i .i64 0))] ++ vr 0 45)
  (.lt (.bin .lss (.v 57) (.c (.i .i64 4))) (.ite (.v 103)
  (.chk (.rng (.v 57) 4) (.call 90 [(true, (vr 45 11)), (true, (selR 57 [0, 11, 22, 33] 11))] [(false, 1)]
  (.ite (.v 104)
  (.call 57 [(true, (vr 58 45)), (false, [(.v 57)])] [(true, 45)]
  (.lt (.bin .add (.v 57) (.c (.i .i64 1))) (.cont 0 ([(.v 150)] ++ vr 105 45))))
  (.lt (.bin .add (.v 57) (.c (.i .i64 1))) (.cont 0 ([(.v 105)] ++ vr 58 45))))))
  (.call 91 [(true, (vr 58 45)), (false, [(.v 56)])] [(false, 1)]
  (.chk (.rng (.v 104) 4) (.call 92 [(true, [(.ite (.isk (.v 104) 0) (.v 45) (.v 58)), (.ite (.isk (.v 104) 0) (.v 46) (.v 59)), (.ite (.isk (.v 104) 0) (.v 47) (.v 60)), (.ite (.isk (.v 104) 0) (.v 48) (.v 61)), (.ite (.isk (.v 104) 0) (.v 49) (.v 62)), (.ite (.isk (.v 104) 0) (.v 50) (.v 63)), (.ite (.isk (.v 104) 0) (.v 51) (.v 64)), (.ite (.isk (.v 104) 0) (.v 52) (.v 65)), (.ite (.isk (.v 104) 0) (.v 53) (.v 66)), (.ite (.isk (.v 104) 0) (.v 54) (.v 67)), (.ite (.isk (.v 104) 0) (.v 55) (.v 68)), (.ite (.isk (.v 104) 1) (.v 45) (.v 69)), (.ite (.isk (.v 104) 1) (.v 46) (.v 70)), (.ite (.isk (.v 104) 1) (.v 47) (.v 71)), (.ite (.isk (.v 104) 1) (.v 48) (.v 72)), (.ite (.isk (.v 104) 1) (.v 49) (.v 73)), (.ite (.isk (.v 104) 1) (.v 50) (.v 74)), (.ite (.isk (.v 104) 1) (.v 51) (.v 75)), (.ite (.isk (.v 104) 1) (.v 52) (.v 76)), (.ite (.isk (.v 104) 1) (.v 53) (.v 77)), (.ite (.isk (.v 104) 1) (.v 54) (.v 78)), (.ite (.isk (.v 104) 1) (.v 55) (.v 79)), (.ite (.isk (.v 104) 2) (.v 45) (.v 80)), (.ite (.isk (.v 104) 2) (.v 46) (.v 81)), (.ite (.isk (.v 104) 2) (.v 47) (.v 82)), (.ite (.isk (.v 104) 2) (.v 48) (.v 83)), (.ite (.isk (.v 104) 2) (.v 49) (.v 84)), (.ite (.isk (.v 104) 2) (.v 50) (.v 85)), (.ite (.isk (.v 104) 2) (.v 51) (.v 86)), (.ite (.isk (.v 104) 2) (.v 52) (.v 87)), (.ite (.isk (.v 104) 2) (.v 53) (.v 88)), (.ite (.isk (.v 104) 2) (.v 54) (.v 89)), (.ite (.isk (.v 104) 2) (.v 55) (.v 90)), (.ite (.isk (.v 104) 3) (.v 45) (.v 91)), (.ite (.isk (.v 104) 3) (.v 46) (.v 92)), (.ite (.isk (.v 104) 3) (.v 47) (.v 93)), (.ite (.isk (.v 104) 3) (.v 48) (.v 94)), (.ite (.isk (.v 104) 3) (.v 49) (.v 95)), (.ite (.isk (.v 104) 3) (.v 50) (.v 96)), (.ite (.isk (.v 104) 3) (.v 51) (.v 97)), (.ite (.isk (.v 104) 3) (.v 52) (.v 98)), (.ite (.isk (.v 104) 3) (.v 53) (.v 99)), (.ite (.isk (.v 104) 3) (.v 54) (.v 100)), (.ite (.isk (.v 104) 3) (.v 55) (.v 101)), (.v 102)]), (false, [(.v 104)])] [(true, 45)]
  (.ret [(true, (vr 105 45)), (false, [(.v 104)])])))))))
theorem set_Put_c : compile envIrS 3000 52 = .ok set_Put_ir := by kernel_rfl
theorem set_Put_p : paramShape Tryz.prog 52 = some [(true, 45), (true, 11), (false, 1)] := by kernel_rfl
theorem set_Put_k : Known gAll 52 (.ir [(true, 45), (true, 11), (false, 1)] set_Put_ir) := known_ir (E := envIrS) (n := 3000) rfl rfl set_Put_c set_Put_p
def plru_side_ir : IR :=
  (.lt (.bin .and (.v 0) (.v 1)) (.lt (.bin .neq (.v 2) (.c (.i .u8 0))) (.ite (.v 3)
  (.ret [(false, [(.c (.i .i64 1))])])
  (.ret [(false, [(.c (.i .i64 0))])]))))
theorem plru_side_c : compile envIrS 3000 122 = .ok plru_side_ir := by kernel_rfl
theorem plru_side_p : paramShape Tryz.prog 122 = some [(false, 1), (false, 1)] := by kernel_rfl
theorem plru_side_k : Known gAll 122 (.ir [(false, 1), (false, 1)] plru_side_ir) := known_ir (E := envIrS) (n := 3000) rfl rfl plru_side_c plru_side_p
def entry_May_ir : IR :=
  (.lt (.un .not (.v 0)) (.ite (.v 11)
  (.lt (.ite (.eqt true (.v 0) (.c (.b false))) (.ite (.eqt false (.v 1) (.c (.i .u64 0))) (.ite (.eqt true (.v 2) (.c (.b false))) (.ite (.eqt false (.v 3) (.c (.i .i64 0))) (.ite (.eqt false (.v 4) (.c (.i .u64 0))) (.ite (.eqt false (.v 5) (.c (.i .u64 0))) (.ite (.eqt true (.v 6) (.c (.b false))) (.ite (.eqt true (.v 7) (.c (.b false))) (.ite (.eqt true (.v 8) (.c (.b false))) (.ite (.eqt true (.v 9) (.c (.b false))) (.ite (.eqt true (.v 10) (.c (.b false))) (.c (.b true)) (.c (.b false))) (.c (.b false))) (.c (.b false))) (.c (.b false))) (.c (.b false))) (.c (.b false))) (.c (.b false))) (.c (.b false))) (.c (.b false))) (.c (.b false))) (.c (.b false))) (.ret [(false, [(.v 12)])]))
  (.lt (.bin .lss (.v 3) (.c (.i .i64 0))) (.ite (.v 12)
  (.lt (.ite (.eqt true (.v 0) (.c (.b false))) (.ite (.eqt false (.v 1) (.c (.i .u64 0))) (.ite (.eqt true (.v 2) (.c (.b false))) (.ite (.eqt false (.v 3) (.c (.i .i64 0))) (.ite (.eqt false (.v 4) (.c (.i .u64 0))) (.ite (.eqt false (.v 5) (.c (.i .u64 0))) (.ite (.eqt true (.v 6) (.c (.b false))) (.ite (.eqt true (.v 7) (.c (.b false))) (.ite (.eqt true (.v 8) (.c (.b false))) (.ite (.eqt true (.v 9) (.c (.b false))) (.ite (.eqt true (.v 10) (.c (.b false))) (.c (.b true)) (.c (.b false))) (.c (.b false))) (.c (.b false))) (.c (.b false))) (.c (.b false))) (.c (.b false))) (.c (.b false))) (.c (.b false))) (.c (.b false))) (.c (.b false))) (.c (.b false))) (.ret [(false, [(.v 13)])]))
  (.lt (.bin .gtr (.v 3) (.c (.i .i64 2))) (.ite (.v 13)
  (.lt (.ite (.eqt true (.v 0) (.c (.b false))) (.ite (.eqt false (.v 1) (.c (.i .u64 0))) (.ite (.eqt true (.v 2) (.c (.b false))) (.ite (.eqt false (.v 3) (.c (.i .i64 0))) (.ite (.eqt false (.v 4) (.c (.i .u64 0))) (.ite (.eqt false (.v 5) (.c (.i .u64 0))) (.ite (.eqt true (.v 6) (.c (.b false))) (.ite (.eqt true (.v 7) (.c (.b false))) (.ite (.eqt true (.v 8) (.c (.b false))) (.ite (.eqt true (.v 9) (.c (.b false))) (.ite (.eqt true (.v 10) (.c (.b false))) (.c (.b true)) (.c (.b false))) (.c (.b false))) (.c (.b false))) (.c (.b false))) (.c (.b false))) (.c (.b false))) (.c (.b false))) (.c (.b false))) (.c (.b false))) (.c (.b false))) (.c (.b false))) (.ret [(false, [(.v 14)])]))
  (.call 88 [(false, [(.v 3)])] [(false, 1)]
  (.call 89 [(false, [(.v 4)]), (false, [(.c (.i .i64 27))])] [(false, 1)]
  (.ite (.v 15)
  (.call 89 [(false, [(.v 5)]), (false, [(.c (.i .i64 44))])] [(false, 1)]
  (.ite (.v 16)
  (.call 89 [(false, [(.v 1)]), (false, [(.c (.i .i64 16))])] [(false, 1)]
  (.ite (.v 17)
  (.call 28 [(false, [(.v 4)]), (false, [(.v 14)])] [(false, 1)]
  (.ite (.v 18)
  (.call 28 [(false, [(.v 5)]), (false, [(.v 14)])] [(false, 1)]
  (.ret [(false, [(.v 19)])]))
  (.ret [(false, [(.c (.b false))])])))
  (.ret [(false, [(.c (.b false))])])))
  (.ret [(false, [(.c (.b false))])])))
  (.ret [(false, [(.c (.b false))])]))))))))))
theorem entry_May_c : compile envIrS 3000 50 = .ok entry_May_ir := by kernel_rfl
theorem entry_May_p : paramShape Tryz.prog 50 = some [(true, 11)] := by kernel_rfl
theorem entry_May_k : Known gAll 50 (.ir [(true, 11)] entry_May_ir) := known_ir (E := envIrS) (n := 3000) rfl rfl entry_May_c entry_May_p
def atlasref12_Pages_ir : IR :=
  (.call 99 [(false, [(.v 0)])] [(false, 1)]
  (.lt (.bin .quo (.v 1) (.c (.i .u64 4096))) (.ret [(false, [(.v 2)])])))
theorem atlasref12_Pages_c : compile envIrS 3000 98 = .ok atlasref12_Pages_ir := by kernel_rfl
theorem atlasref12_Pages_p : paramShape Tryz.prog 98 = some [(false, 1)] := by kernel_rfl
theorem atlasref12_Pages_k : Known gAll 98 (.ir [(false, 1)] atlasref12_Pages_ir) := known_ir (E := envIrS) (n := 3000) rfl rfl atlasref12_Pages_c atlasref12_Pages_p
def entry_Matches_ir : IR :=
  (.call 123 [(true, (vr 0 11)), (false, [(.v 12)])] [(false, 1)]
  (.ite (.v 13)
  (.ite (.v 2)
  (.ret [(false, [(.c (.b true))])])
  (.lt (.bin .eql (.v 1) (.v 11)) (.ret [(false, [(.v 14)])])))
  (.ret [(false, [(.c (.b false))])])))
theorem entry_Matches_c : compile envIrS 3000 116 = .ok entry_Matches_ir := by kernel_rfl
theorem entry_Matches_p : paramShape Tryz.prog 116 = some [(true, 11), (false, 1), (false, 1)] := by kernel_rfl
theorem entry_Matches_k : Known gAll 116 (.ir [(true, 11), (false, 1), (false, 1)] entry_Matches_ir) := known_ir (E := envIrS) (n := 3000) rfl rfl entry_Matches_c entry_Matches_p
def set_goes_ir : IR :=
  (.lt (.bin .geq (.v 45) (.c (.i .i64 0))) (.ite (.v 46)
  (.lt (.bin .lss (.v 45) (.c (.i .i64 4))) (.ite (.v 47)
  (.ret [(false, [(.v 45)])])
  (.lt (.un .not (.v 0)) (.ite (.v 48)
  (.ret [(false, [(.c (.i .i64 0))])])
  (.lt (.un .not (.v 11)) (.ite (.v 49)
  (.ret [(false, [(.c (.i .i64 1))])])
  (.lt (.un .not (.v 22)) (.ite (.v 50)
  (.ret [(false, [(.c (.i .i64 2))])])
  (.lt (.un .not (.v 33)) (.ite (.v 51)
  (.ret [(false, [(.c (.i .i64 3))])])
  (.call 113 [(false, [(.v 44)])] [(false, 1)]
  (.ret [(false, [(.v 52)])]))))))))))))
  (.lt (.un .not (.v 0)) (.ite (.v 47)
  (.ret [(false, [(.c (.i .i64 0))])])
  (.lt (.un .not (.v 11)) (.ite (.v 48)
  (.ret [(false, [(.c (.i .i64 1))])])
  (.lt (.un .not (.v 22)) (.ite (.v 49)
  (.ret [(false, [(.c (.i .i64 2))])])
  (.lt (.un .not (.v 33)) (.ite (.v 50)
  (.ret [(false, [(.c (.i .i64 3))])])
  (.call 113 [(false, [(.v 44)])] [(false, 1)]
  (.ret [(false, [(.v 51)])]))))))))))))
theorem set_goes_c : compile envIrS 3000 91 = .ok set_goes_ir := by kernel_rfl
theorem set_goes_p : paramShape Tryz.prog 91 = some [(true, 45), (false, 1)] := by kernel_rfl
theorem set_goes_k : Known gAll 91 (.ir [(true, 45), (false, 1)] set_goes_ir) := known_ir (E := envIrS) (n := 3000) rfl rfl set_goes_c set_goes_p
def entry_Of_ir : IR :=
  (.call 55 [(false, [(.v 13)]), (false, [(.v 0)])] [(false, 1)]
  (.call 54 [(false, [(.v 15)])] [(false, 1)]
  (.call 56 [(true, (vr 2 11))] [(true, 4)]
  (.ret [(true, ([(.c (.b true)), (.v 14), (.v 7), (.v 0), (.v 16), (.v 11)] ++ vr 17 4 ++ [(.v 9)]))]))))
theorem entry_Of_c : compile envIrS 3000 26 = .ok entry_Of_ir := by kernel_rfl
theorem entry_Of_p : paramShape Tryz.prog 26 = some [(true, 13), (false, 1), (false, 1)] := by kernel_rfl
theorem entry_Of_k : Known gAll 26 (.ir [(true, 13), (false, 1), (false, 1)] entry_Of_ir) := known_ir (E := envIrS) (n := 3000) rfl rfl entry_Of_c entry_Of_p
def entry_pages_ir : IR :=
  (.call 82 [(false, [(.v 0)])] [(false, 1)]
  (.lt (.bin .quo (.v 1) (.c (.i .u64 4096))) (.ret [(false, [(.v 2)])])))
theorem entry_pages_c : compile envIrS 3000 88 = .ok entry_pages_ir := by kernel_rfl
theorem entry_pages_p : paramShape Tryz.prog 88 = some [(false, 1)] := by kernel_rfl
theorem entry_pages_k : Known gAll 88 (.ir [(false, 1)] entry_pages_ir) := known_ir (E := envIrS) (n := 3000) rfl rfl entry_pages_c entry_pages_p
def entry_fits_ir : IR :=
  (.call 79 [(false, [(.v 0)]), (false, [(.c (.i .i64 0))]), (false, [(.v 1)])] [(false, 1)]
  (.lt (.bin .eql (.v 2) (.v 0)) (.ret [(false, [(.v 3)])])))
theorem entry_fits_c : compile envIrS 3000 89 = .ok entry_fits_ir := by kernel_rfl
theorem entry_fits_p : paramShape Tryz.prog 89 = some [(false, 1), (false, 1)] := by kernel_rfl
theorem entry_fits_k : Known gAll 89 (.ir [(false, 1), (false, 1)] entry_fits_ir) := known_ir (E := envIrS) (n := 3000) rfl rfl entry_fits_c entry_fits_p
def entry_Covers_ir : IR :=
  (.ite (.v 0)
  (.call 55 [(false, [(.v 11)]), (false, [(.v 3)])] [(false, 1)]
  (.call 54 [(false, [(.v 12)])] [(false, 1)]
  (.lt (.bin .eql (.v 13) (.v 4)) (.ret [(false, [(.v 14)])]))))
  (.ret [(false, [(.c (.b false))])]))
theorem entry_Covers_c : compile envIrS 3000 123 = .ok entry_Covers_ir := by kernel_rfl
theorem entry_Covers_p : paramShape Tryz.prog 123 = some [(true, 11), (false, 1)] := by kernel_rfl
theorem entry_Covers_k : Known gAll 123 (.ir [(true, 11), (false, 1)] entry_Covers_ir) := known_ir (E := envIrS) (n := 3000) rfl rfl entry_Covers_c entry_Covers_p
def entry_Physical_ir : IR :=
  (.lt (.bin .mul (.v 5) (.c (.i .u64 4096))) (.call 94 [(false, [(.v 11)]), (false, [(.v 3)])] [(false, 1)]
  (.lt (.bin .add (.v 12) (.v 13)) (.ret [(false, [(.v 14)])]))))
theorem entry_Physical_c : compile envIrS 3000 62 = .ok entry_Physical_ir := by kernel_rfl
theorem entry_Physical_p : paramShape Tryz.prog 62 = some [(true, 11), (false, 1)] := by kernel_rfl
theorem entry_Physical_k : Known gAll 62 (.ir [(true, 11), (false, 1)] entry_Physical_ir) := known_ir (E := envIrS) (n := 3000) rfl rfl entry_Physical_c entry_Physical_p
def TIrS : Tbl :=
  (113, .ir [(false, 1)] plru_Victim_ir) ::
  (114, .ir [(false, 1), (false, 1)] plru_Touch_ir) ::
  (66, .ir [(true, 45)] atlasref13_Right_ir) ::
  (97, .ir [(true, 11)] atlasref12_May_ir) ::
  (95, .ir [(true, 45), (false, 1), (false, 1), (false, 1)] set_Find_ir) ::
  (92, .ir [(true, 45), (false, 1)] set_Use_ir) ::
  (57, .ir [(true, 45), (false, 1)] set_Drop_ir) ::
  (90, .ir [(true, 11), (true, 11)] set_Same_ir) ::
  (52, .ir [(true, 45), (true, 11), (false, 1)] set_Put_ir) ::
  (122, .ir [(false, 1), (false, 1)] plru_side_ir) ::
  (50, .ir [(true, 11)] entry_May_ir) ::
  (98, .ir [(false, 1)] atlasref12_Pages_ir) ::
  (116, .ir [(true, 11), (false, 1), (false, 1)] entry_Matches_ir) ::
  (91, .ir [(true, 45), (false, 1)] set_goes_ir) ::
  (26, .ir [(true, 13), (false, 1), (false, 1)] entry_Of_ir) ::
  (88, .ir [(false, 1)] entry_pages_ir) ::
  (89, .ir [(false, 1), (false, 1)] entry_fits_ir) ::
  (123, .ir [(true, 11), (false, 1)] entry_Covers_ir) ::
  (62, .ir [(true, 11), (false, 1)] entry_Physical_ir) ::
  []
theorem TIrS_ok : ∀ x ∈ TIrS, Known gAll x.1 x.2 :=
  kcons plru_Victim_k <|
  kcons plru_Touch_k <|
  kcons atlasref13_Right_k <|
  kcons atlasref12_May_k <|
  kcons set_Find_k <|
  kcons set_Use_k <|
  kcons set_Drop_k <|
  kcons set_Same_k <|
  kcons set_Put_k <|
  kcons plru_side_k <|
  kcons entry_May_k <|
  kcons atlasref12_Pages_k <|
  kcons entry_Matches_k <|
  kcons set_goes_k <|
  kcons entry_Of_k <|
  kcons entry_pages_k <|
  kcons entry_fits_k <|
  kcons entry_Covers_k <|
  kcons entry_Physical_k <|
  fun _ h => nomatch h
end Go.Proofs.YtobdkhjaipoliaaGreatDoor.Sx
