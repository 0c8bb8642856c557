/-
 IRs of functions, printed by a program of mine (wip/tools/mkir.py, ev.run.lean); each is checked by the kernel against the executor.
-/
import Derived.Test.YtnkjmocacielmaaDoorZIrTb
import Derived.Test.YtnkjmocacielmaaDoorProg
namespace Go.Proofs.YtnkjmocacielmaaDoor.Sx
open Go
set_option maxRecDepth 100000
noncomputable def envIrSp : Env := { P := Tryd.prog, G := gAll, inl := [], unr := [], ded := true }
def atlaslaw20_SplitDoes_ir : IR :=
 (.call 7 [] [(false, 1)]
 (.lt (.un .not (.v 9)) (.ite (.v 10)
 (.call 7 [] [(false, 1)]
 (.ret [(false, [(.v 11)])]))
 (.call 8 [(true, [(.v 0), (.v 1)]), (true, [(.v 2), (.v 3), (.v 4)]), (false, [(.v 5)]), (false, [(.v 6)])] [(false, 1)]
 (.lt (.un .not (.v 11)) (.ite (.v 12)
 (.call 7 [] [(false, 1)]
 (.ret [(false, [(.v 13)])]))
 (.call 9 [(false, [(.v 7)])] [(false, 1)]
 (.lt (.un .not (.v 13)) (.ite (.v 14)
 (.call 7 [] [(false, 1)]
 (.ret [(false, [(.v 15)])]))
 (.lt (.cv .i64 (.v 8)) (.lt (.bin .add (.v 6) (.c (.i .i64 1))) (.lt (.bin .rem (.v 15) (.v 16)) (.call 10 [(true, [(.v 0), (.v 1)]), (true, [(.v 2), (.v 3), (.v 4)]), (false, [(.v 5)]), (false, [(.v 6)]), (false, [(.v 7)]), (false, [(.v 17)])] [(true, 2), (true, 3), (true, 13), (false, 1)]
 (.call 11 [(true, [(.v 0), (.v 1)]), (true, [(.v 2), (.v 3), (.v 4)]), (false, [(.v 5)]), (false, [(.v 6)]), (false, [(.v 7)]), (false, [(.v 17)])] [(true, 2), (true, 3), (true, 13), (false, 1)]
 (.call 12 [(true, [(.v 18), (.v 19)]), (true, [(.v 37), (.v 38)])] [(false, 1)]
 (.lt (.un .not (.v 56)) (.ite (.v 57)
 (.ret [(false, [(.c (.b false))])])
 (.lt (.un .not (.ite (.eqt false (.v 20) (.v 39)) (.ite (.eqt false (.v 21) (.v 40)) (.ite (.eqt false (.v 22) (.v 41)) (.c (.b true)) (.c (.b false))) (.c (.b false))) (.c (.b false)))) (.ite (.v 58)
 (.ret [(false, [(.c (.b false))])])
 (.lt (.un .not (.ite (.eqt false (.v 23) (.v 42)) (.ite (.eqt false (.v 24) (.v 43)) (.ite (.eqt true (.v 25) (.v 44)) (.ite (.eqt true (.v 26) (.v 45)) (.ite (.eqt true (.v 27) (.v 46)) (.ite (.eqt true (.v 28) (.v 47)) (.ite (.eqt true (.v 29) (.v 48)) (.ite (.eqt true (.v 30) (.v 49)) (.ite (.eqt true (.v 31) (.v 50)) (.ite (.eqt true (.v 32) (.v 51)) (.ite (.eqt false (.v 33) (.v 52)) (.ite (.eqt false (.v 34) (.v 53)) (.ite (.eqt false (.v 35) (.v 54)) (.c (.b true)) (.c (.b false))) (.c (.b false))) (.c (.b false))) (.c (.b false))) (.c (.b false))) (.c (.b false))) (.c (.b false))) (.c (.b false))) (.c (.b false))) (.c (.b false))) (.c (.b false))) (.c (.b false))) (.c (.b false)))) (.ite (.v 59)
 (.ret [(false, [(.c (.b false))])])
 (.lt (.bin .neq (.v 36) (.v 55)) (.ite (.v 60)
 (.ret [(false, [(.c (.b false))])])
 (.call 13 [(true, [(.v 0), (.v 1)]), (true, [(.v 2), (.v 3), (.v 4)]), (false, [(.v 5)]), (false, [(.v 6)]), (false, [(.v 7)]), (false, [(.v 17)])] [(true, 2), (true, 3), (true, 13), (false, 1)]
 (.call 14 [(true, [(.v 0), (.v 1)]), (true, [(.v 2), (.v 3), (.v 4)]), (false, [(.v 5)]), (false, [(.v 6)]), (false, [(.v 7)]), (false, [(.v 17)])] [(true, 2), (true, 3), (true, 13), (false, 1)]
 (.call 12 [(true, [(.v 61), (.v 62)]), (true, [(.v 80), (.v 81)])] [(false, 1)]
 (.lt (.un .not (.v 99)) (.ite (.v 100)
 (.ret [(false, [(.c (.b false))])])
 (.lt (.un .not (.ite (.eqt false (.v 63) (.v 82)) (.ite (.eqt false (.v 64) (.v 83)) (.ite (.eqt false (.v 65) (.v 84)) (.c (.b true)) (.c (.b false))) (.c (.b false))) (.c (.b false)))) (.ite (.v 101)
 (.ret [(false, [(.c (.b false))])])
 (.lt (.un .not (.ite (.eqt false (.v 66) (.v 85)) (.ite (.eqt false (.v 67) (.v 86)) (.ite (.eqt true (.v 68) (.v 87)) (.ite (.eqt true (.v 69) (.v 88)) (.ite (.eqt true (.v 70) (.v 89)) (.ite (.eqt true (.v 71) (.v 90)) (.ite (.eqt true (.v 72) (.v 91)) (.ite (.eqt true (.v 73) (.v 92)) (.ite (.eqt true (.v 74) (.v 93)) (.ite (.eqt true (.v 75) (.v 94)) (.ite (.eqt false (.v 76) (.v 95)) (.ite (.eqt false (.v 77) (.v 96)) (.ite (.eqt false (.v 78) (.v 97)) (.c (.b true)) (.c (.b false))) (.c (.b false))) (.c (.b false))) (.c (.b false))) (.c (.b false))) (.c (.b false))) (.c (.b false))) (.c (.b false))) (.c (.b false))) (.c (.b false))) (.c (.b false))) (.c (.b false))) (.c (.b false)))) (.ite (.v 102)
 (.ret [(false, [(.c (.b false))])])
 (.lt (.bin .neq (.v 79) (.v 98)) (.ite (.v 103)
 (.ret [(false, [(.c (.b false))])])
 (.call 15 [(true, [(.v 0), (.v 1)]), (false, [(.v 5)]), (false, [(.v 6)]), (false, [(.v 7)]), (false, [(.c (.i .i64 0))])] [(true, 13)]
 (.lt (.bin .eql (.v 105) (.c (.i .i64 0))) (.ite (.v 117)
 (.ret [(false, [(.c (.b true))])])
 (.call 16 [(true, (vr 106 11))] [(false, 1)]
 (.lt (.un .not (.v 118)) (.ite (.v 119)
 (.ret [(false, [(.c (.b true))])])
 (.call 17 [(true, [(.v 0), (.v 1)]), (true, [(.v 2), (.v 3), (.v 4)]), (true, (vr 104 13)), (false, [(.v 7)])] [(true, 2), (true, 3), (false, 1)]
 (.call 18 [(true, [(.v 0), (.v 1)]), (true, [(.v 2), (.v 3), (.v 4)]), (true, (vr 104 13)), (false, [(.v 7)])] [(true, 2), (true, 3), (false, 1)]
 (.call 12 [(true, [(.v 120), (.v 121)]), (true, [(.v 126), (.v 127)])] [(false, 1)]
 (.ite (.v 132)
 (.lt (.ite (.eqt false (.v 122) (.v 128)) (.ite (.eqt false (.v 123) (.v 129)) (.ite (.eqt false (.v 124) (.v 130)) (.c (.b true)) (.c (.b false))) (.c (.b false))) (.c (.b false))) (.ite (.v 133)
 (.lt (.bin .eql (.v 125) (.v 131)) (.ret [(false, [(.v 134)])]))
 (.ret [(false, [(.c (.b false))])])))
 (.ret [(false, [(.c (.b false))])])))))))))))))))))))))))))))))))))))))))))))))
theorem atlaslaw20_SplitDoes_c : compile envIrSp 3000 3 = .ok atlaslaw20_SplitDoes_ir := by kernel_rfl
theorem atlaslaw20_SplitDoes_p : paramShape Tryd.prog 3 = some [(true, 2), (true, 3), (false, 1), (false, 1), (false, 1), (false, 1)] := by kernel_rfl
def atlaslaw20_SplitPrunes_ir : IR :=
 (.call 7 [] [(false, 1)]
 (.lt (.un .not (.v 8)) (.ite (.v 9)
 (.call 7 [] [(false, 1)]
 (.ret [(false, [(.v 10)])]))
 (.call 8 [(true, [(.v 0), (.v 1)]), (true, [(.v 2), (.v 3), (.v 4)]), (false, [(.v 5)]), (false, [(.v 6)])] [(false, 1)]
 (.lt (.un .not (.v 10)) (.ite (.v 11)
 (.call 7 [] [(false, 1)]
 (.ret [(false, [(.v 12)])]))
 (.call 9 [(false, [(.v 7)])] [(false, 1)]
 (.lt (.un .not (.v 12)) (.ite (.v 13)
 (.call 7 [] [(false, 1)]
 (.ret [(false, [(.v 14)])]))
 (.call 19 [(true, [(.v 0), (.v 1)]), (true, [(.v 2), (.v 3), (.v 4)]), (false, [(.v 5)]), (false, [(.v 6)]), (false, [(.v 7)])] [(true, 2), (true, 3)]
 (.call 20 [(true, [(.v 0), (.v 1)]), (true, [(.v 2), (.v 3), (.v 4)]), (false, [(.v 5)]), (false, [(.v 6)]), (false, [(.v 7)])] [(true, 2), (true, 3)]
 (.call 12 [(true, [(.v 14), (.v 15)]), (true, [(.v 19), (.v 20)])] [(false, 1)]
 (.ite (.v 24)
 (.lt (.ite (.eqt false (.v 16) (.v 21)) (.ite (.eqt false (.v 17) (.v 22)) (.ite (.eqt false (.v 18) (.v 23)) (.c (.b true)) (.c (.b false))) (.c (.b false))) (.c (.b false))) (.ret [(false, [(.v 25)])]))
 (.ret [(false, [(.c (.b false))])]))))))))))))))
theorem atlaslaw20_SplitPrunes_c : compile envIrSp 3000 4 = .ok atlaslaw20_SplitPrunes_ir := by kernel_rfl
theorem atlaslaw20_SplitPrunes_p : paramShape Tryd.prog 4 = some [(true, 2), (true, 3), (false, 1), (false, 1), (false, 1)] := by kernel_rfl
def atlaslaw20_SplitKeeps_ir : IR :=
 (.call 7 [] [(false, 1)]
 (.lt (.un .not (.v 9)) (.ite (.v 10)
 (.call 7 [] [(false, 1)]
 (.ret [(false, [(.v 11)])]))
 (.call 8 [(true, [(.v 0), (.v 1)]), (true, [(.v 2), (.v 3), (.v 4)]), (false, [(.v 5)]), (false, [(.v 6)])] [(false, 1)]
 (.lt (.un .not (.v 11)) (.ite (.v 12)
 (.call 7 [] [(false, 1)]
 (.ret [(false, [(.v 13)])]))
 (.call 9 [(false, [(.v 7)])] [(false, 1)]
 (.lt (.un .not (.v 13)) (.ite (.v 14)
 (.call 7 [] [(false, 1)]
 (.ret [(false, [(.v 15)])]))
 (.chk (.room (.len (.app 2 (.c (.sl 2 [])) (.v 1))) 17) (.lt (.app 2 (.c (.sl 2 [])) (.v 1)) (.lt (.cv .i64 (.v 8)) (.lt (.bin .add (.v 6) (.c (.i .i64 1))) (.lt (.bin .rem (.v 16) (.v 17)) (.call 10 [(true, [(.v 0), (.v 15)]), (true, [(.v 2), (.v 3), (.v 4)]), (false, [(.v 5)]), (false, [(.v 6)]), (false, [(.v 7)]), (false, [(.v 18)])] [(true, 2), (true, 3), (true, 13), (false, 1)]
 (.call 13 [(true, [(.v 0), (.v 15)]), (true, [(.v 2), (.v 3), (.v 4)]), (false, [(.v 5)]), (false, [(.v 6)]), (false, [(.v 7)]), (false, [(.v 18)])] [(true, 2), (true, 3), (true, 13), (false, 1)]
 (.call 19 [(true, [(.v 0), (.v 15)]), (true, [(.v 2), (.v 3), (.v 4)]), (false, [(.v 5)]), (false, [(.v 6)]), (false, [(.v 7)])] [(true, 2), (true, 3)]
 (.call 12 [(true, [(.v 0), (.v 15)]), (true, [(.v 0), (.v 1)])] [(false, 1)]
 (.ret [(false, [(.v 62)])])))))))))))))))))))
theorem atlaslaw20_SplitKeeps_c : compile envIrSp 3000 5 = .ok atlaslaw20_SplitKeeps_ir := by kernel_rfl
theorem atlaslaw20_SplitKeeps_p : paramShape Tryd.prog 5 = some [(true, 2), (true, 3), (false, 1), (false, 1), (false, 1), (false, 1)] := by kernel_rfl
def atlaslaw20_SplitTwice_ir : IR :=
 (.call 7 [] [(false, 1)]
 (.lt (.un .not (.v 8)) (.ite (.v 9)
 (.call 7 [] [(false, 1)]
 (.ret [(false, [(.v 10)])]))
 (.call 8 [(true, [(.v 0), (.v 1)]), (true, [(.v 2), (.v 3), (.v 4)]), (false, [(.v 5)]), (false, [(.c (.i .i64 2))])] [(false, 1)]
 (.lt (.un .not (.v 10)) (.ite (.v 11)
 (.call 7 [] [(false, 1)]
 (.ret [(false, [(.v 12)])]))
 (.call 9 [(false, [(.v 6)])] [(false, 1)]
 (.lt (.un .not (.v 12)) (.ite (.v 13)
 (.call 7 [] [(false, 1)]
 (.ret [(false, [(.v 14)])]))
 (.lt (.cv .i64 (.v 7)) (.lt (.bin .rem (.v 14) (.c (.i .i64 3))) (.call 13 [(true, [(.v 0), (.v 1)]), (true, [(.v 2), (.v 3), (.v 4)]), (false, [(.v 5)]), (false, [(.c (.i .i64 2))]), (false, [(.v 6)]), (false, [(.v 15)])] [(true, 2), (true, 3), (true, 13), (false, 1)]
 (.lt (.bin .neq (.v 34) (.c (.i .i64 0))) (.ite (.v 35)
 (.ret [(false, [(.c (.b true))])])
 (.call 13 [(true, [(.v 16), (.v 17)]), (true, [(.v 18), (.v 19), (.v 20)]), (false, [(.v 5)]), (false, [(.c (.i .i64 2))]), (false, [(.v 6)]), (false, [(.v 15)])] [(true, 2), (true, 3), (true, 13), (false, 1)]
 (.lt (.bin .neq (.v 54) (.c (.i .i64 0))) (.ite (.v 55)
 (.ret [(false, [(.c (.b false))])])
 (.call 12 [(true, [(.v 16), (.v 17)]), (true, [(.v 36), (.v 37)])] [(false, 1)]
 (.lt (.un .not (.v 56)) (.ite (.v 57)
 (.ret [(false, [(.c (.b false))])])
 (.lt (.un .not (.ite (.eqt false (.v 18) (.v 38)) (.ite (.eqt false (.v 19) (.v 39)) (.ite (.eqt false (.v 20) (.v 40)) (.c (.b true)) (.c (.b false))) (.c (.b false))) (.c (.b false)))) (.ite (.v 58)
 (.ret [(false, [(.c (.b false))])])
 (.lt (.un .not (.ite (.eqt false (.v 21) (.v 41)) (.ite (.eqt false (.v 22) (.v 42)) (.ite (.eqt true (.v 23) (.v 43)) (.ite (.eqt true (.v 24) (.v 44)) (.ite (.eqt true (.v 25) (.v 45)) (.ite (.eqt true (.v 26) (.v 46)) (.ite (.eqt true (.v 27) (.v 47)) (.ite (.eqt true (.v 28) (.v 48)) (.ite (.eqt true (.v 29) (.v 49)) (.ite (.eqt true (.v 30) (.v 50)) (.ite (.eqt false (.v 31) (.v 51)) (.ite (.eqt false (.v 32) (.v 52)) (.ite (.eqt false (.v 33) (.v 53)) (.c (.b true)) (.c (.b false))) (.c (.b false))) (.c (.b false))) (.c (.b false))) (.c (.b false))) (.c (.b false))) (.c (.b false))) (.c (.b false))) (.c (.b false))) (.c (.b false))) (.c (.b false))) (.c (.b false))) (.c (.b false)))) (.ite (.v 59)
 (.ret [(false, [(.c (.b false))])])
 (.call 13 [(true, [(.v 16), (.v 17)]), (true, [(.v 18), (.v 19), (.v 20)]), (false, [(.v 5)]), (false, [(.c (.i .i64 2))]), (false, [(.v 6)]), (false, [(.c (.i .i64 0))])] [(true, 2), (true, 3), (true, 13), (false, 1)]
 (.call 13 [(true, [(.v 0), (.v 1)]), (true, [(.v 2), (.v 3), (.v 4)]), (false, [(.v 5)]), (false, [(.c (.i .i64 2))]), (false, [(.v 6)]), (false, [(.c (.i .i64 0))])] [(true, 2), (true, 3), (true, 13), (false, 1)]
 (.lt (.bin .eql (.v 78) (.v 97)) (.ite (.v 98)
 (.lt (.bin .neq (.v 78) (.c (.i .i64 0))) (.ite (.v 99)
 (.ret [(false, [(.c (.b true))])])
 (.lt (.ite (.eqt false (.v 62) (.v 81)) (.ite (.eqt false (.v 63) (.v 82)) (.ite (.eqt false (.v 64) (.v 83)) (.c (.b true)) (.c (.b false))) (.c (.b false))) (.c (.b false))) (.ite (.v 100)
 (.lt (.bin .eql (.v 66) (.v 85)) (.ite (.v 101)
 (.call 12 [(true, [(.v 60), (.v 61)]), (true, [(.v 79), (.v 80)])] [(false, 1)]
 (.ite (.v 102)
 (.call 22 [(true, [(.v 60), (.v 61)]), (false, [(.v 5)]), (false, [(.c (.i .i64 2))]), (false, [(.c (.i .u64 0))])] [(false, 1)]
 (.call 22 [(true, [(.v 79), (.v 80)]), (false, [(.v 5)]), (false, [(.c (.i .i64 2))]), (false, [(.c (.i .u64 0))])] [(false, 1)]
 (.call 21 [(false, [(.v 103)]), (false, [(.v 104)])] [(false, 1)]
 (.ret [(false, [(.v 105)])]))))
 (.ret [(false, [(.c (.b false))])])))
 (.ret [(false, [(.c (.b false))])])))
 (.ret [(false, [(.c (.b false))])])))))
 (.ret [(false, [(.c (.b false))])])))))))))))))))))))))))))))))
theorem atlaslaw20_SplitTwice_c : compile envIrSp 3000 6 = .ok atlaslaw20_SplitTwice_ir := by kernel_rfl
theorem atlaslaw20_SplitTwice_p : paramShape Tryd.prog 6 = some [(true, 2), (true, 3), (false, 1), (false, 1), (false, 1)] := by kernel_rfl
def atlaslaw20_awake_ir : IR :=
 (.call 10 [(true, [(.c (.i .u64 16384)), (.c (.sl 0 []))]), (true, [(.c (.i .u64 1)), (.c (.i .i64 3)), (.c (.i .u64 7))]), (false, [(.c (.i .u64 0))]), (false, [(.c (.i .i64 2))]), (false, [(.c (.i .u64 20480))]), (false, [(.c (.i .i64 0))])] [(true, 2), (true, 3), (true, 13), (false, 1)]
 (.call 10 [(true, [(.c (.i .u64 16384)), (.c (.sl 0 []))]), (true, [(.c (.i .u64 1)), (.c (.i .i64 3)), (.c (.i .u64 1))]), (false, [(.c (.i .u64 0))]), (false, [(.c (.i .i64 2))]), (false, [(.c (.i .u64 20480))]), (false, [(.c (.i .i64 0))])] [(true, 2), (true, 3), (true, 13), (false, 1)]
 (.call 19 [(true, [(.v 0), (.v 1)]), (true, [(.v 2), (.v 3), (.v 4)]), (false, [(.c (.i .u64 0))]), (false, [(.c (.i .i64 2))]), (false, [(.c (.i .u64 20480))])] [(true, 2), (true, 3)]
 (.call 24 [(false, [(.c (.i .u64 512))]), (true, [(.c (.b true)), (.c (.b false)), (.c (.b false)), (.c (.b false))]), (false, [(.c (.b false))])] [(true, 11)]
 (.call 23 [(true, [(.v 0), (.v 1)]), (true, [(.c (.i .u64 1)), (.c (.i .i64 1)), (.c (.b false)), (.c (.b false)), (.c (.b false)), (.c (.b false)), (.c (.b false)), (.c (.b false)), (.c (.b false)), (.c (.b false)), (.c (.i .u64 0)), (.c (.i .u64 0)), (.c (.i .u64 0))]), (false, [(.c (.i .u64 2097152))]), (true, (vr 43 11))] [(true, 2)]
 (.call 13 [(true, [(.v 54), (.v 55)]), (true, [(.v 2), (.v 3), (.v 4)]), (false, [(.c (.i .u64 0))]), (false, [(.c (.i .i64 2))]), (false, [(.c (.i .u64 2101248))]), (false, [(.c (.i .i64 0))])] [(true, 2), (true, 3), (true, 13), (false, 1)]
 (.call 10 [(true, [(.v 54), (.v 55)]), (true, [(.v 2), (.v 3), (.v 4)]), (false, [(.c (.i .u64 0))]), (false, [(.c (.i .i64 2))]), (false, [(.c (.i .u64 2101248))]), (false, [(.c (.i .i64 0))])] [(true, 2), (true, 3), (true, 13), (false, 1)]
 (.lt (.bin .eql (.v 18) (.c (.i .i64 0))) (.ite (.v 94)
 (.lt (.bin .eql (.v 4) (.c (.i .u64 4))) (.ite (.v 95)
 (.lt (.ite (.eqt false (.v 5) (.c (.i .u64 2))) (.ite (.eqt false (.v 6) (.c (.i .i64 0))) (.ite (.eqt true (.v 7) (.c (.b false))) (.ite (.eqt true (.v 8) (.c (.b false))) (.ite (.eqt true (.v 9) (.c (.b false))) (.ite (.eqt true (.v 10) (.c (.b false))) (.ite (.eqt true (.v 11) (.c (.b false))) (.ite (.eqt true (.v 12) (.c (.b false))) (.ite (.eqt true (.v 13) (.c (.b false))) (.ite (.eqt true (.v 14) (.c (.b false))) (.ite (.eqt false (.v 15) (.c (.i .u64 0))) (.ite (.eqt false (.v 16) (.c (.i .u64 0))) (.ite (.eqt false (.v 17) (.c (.i .u64 0))) (.c (.b true)) (.c (.b false))) (.c (.b false))) (.c (.b false))) (.c (.b false))) (.c (.b false))) (.c (.b false))) (.c (.b false))) (.c (.b false))) (.c (.b false))) (.c (.b false))) (.c (.b false))) (.c (.b false))) (.c (.b false))) (.ite (.v 96)
 (.lt (.bin .eql (.v 37) (.c (.i .i64 8))) (.ite (.v 97)
 (.call 12 [(true, [(.v 38), (.v 39)]), (true, [(.c (.i .u64 16384)), (.c (.sl 0 []))])] [(false, 1)]
 (.ite (.v 98)
 (.lt (.ite (.eqt false (.v 40) (.c (.i .u64 1))) (.ite (.eqt false (.v 41) (.c (.i .i64 3))) (.ite (.eqt false (.v 42) (.c (.i .u64 7))) (.c (.b true)) (.c (.b false))) (.c (.b false))) (.c (.b false))) (.ite (.v 99)
 (.lt (.bin .eql (.v 74) (.c (.i .i64 0))) (.ite (.v 100)
 (.lt (.bin .eql (.v 60) (.c (.i .u64 0))) (.ite (.v 101)
 (.lt (.bin .eql (.v 61) (.c (.i .u64 3))) (.ite (.v 102)
 (.lt (.bin .eql (.v 72) (.c (.i .u64 513))) (.ite (.v 103)
 (.ite (.v 64)
 (.lt (.len (.v 57)) (.lt (.len (.v 55)) (.lt (.bin .add (.v 105) (.c (.i .i64 512))) (.lt (.bin .eql (.v 104) (.v 106)) (.ite (.v 107)
 (.lt (.bin .eql (.v 93) (.c (.i .i64 6))) (.ret [(false, [(.v 108)])]))
 (.ret [(false, [(.c (.b false))])]))))))
 (.ret [(false, [(.c (.b false))])]))
 (.ret [(false, [(.c (.b false))])])))
 (.ret [(false, [(.c (.b false))])])))
 (.ret [(false, [(.c (.b false))])])))
 (.ret [(false, [(.c (.b false))])])))
 (.ret [(false, [(.c (.b false))])])))
 (.ret [(false, [(.c (.b false))])])))
 (.ret [(false, [(.c (.b false))])])))
 (.ret [(false, [(.c (.b false))])])))
 (.ret [(false, [(.c (.b false))])])))
 (.ret [(false, [(.c (.b false))])]))))))))))
theorem atlaslaw20_awake_c : compile envIrSp 3000 7 = .ok atlaslaw20_awake_ir := by kernel_rfl
theorem atlaslaw20_awake_p : paramShape Tryd.prog 7 = some [] := by kernel_rfl
def split_Down_ir : IR :=
 (.loop ([(.c (.i .i64 0))] ++ vr 0 5)
 (.call 27 [(true, [(.v 10), (.v 11)]), (false, [(.v 5)]), (false, [(.v 6)]), (false, [(.v 7)]), (false, [(.v 8)])] [(true, 13)]
 (.lt (.bin .eql (.v 16) (.v 8)) (.ite (.v 28)
 (.ret [(true, [(.v 10), (.v 11)]), (true, [(.v 12), (.v 13), (.v 14)]), (true, (vr 15 13)), (false, [(.c (.i .i64 0))])])
 (.ite (.v 17)
 (.ret [(true, [(.v 0), (.v 1)]), (true, [(.v 2), (.v 3), (.v 4)]), (true, [(.c (.i .u64 0)), (.c (.i .i64 0)), (.c (.b false)), (.c (.b false)), (.c (.b false)), (.c (.b false)), (.c (.b false)), (.c (.b false)), (.c (.b false)), (.c (.b false)), (.c (.i .u64 0)), (.c (.i .u64 0)), (.c (.i .u64 0))]), (false, [(.c (.i .i64 6))])])
 (.call 28 [(true, [(.v 10), (.v 11)]), (true, [(.v 12), (.v 13), (.v 14)])] [(true, 2), (true, 3), (false, 1), (false, 1)]
 (.lt (.bin .neq (.v 35) (.c (.i .i64 0))) (.ite (.v 36)
 (.ret [(true, [(.v 0), (.v 1)]), (true, [(.v 2), (.v 3), (.v 4)]), (true, [(.c (.i .u64 0)), (.c (.i .i64 0)), (.c (.b false)), (.c (.b false)), (.c (.b false)), (.c (.b false)), (.c (.b false)), (.c (.b false)), (.c (.b false)), (.c (.b false)), (.c (.i .u64 0)), (.c (.i .u64 0)), (.c (.i .u64 0))]), (false, [(.v 35)])])
 (.call 30 [(false, [(.v 34)])] [(true, 11)]
 (.call 29 [(true, [(.v 29), (.v 30)]), (true, (vr 15 13)), (false, [(.v 7)]), (true, (vr 37 11))] [(true, 2)]
 (.cont 0 [(.v 9), (.v 48), (.v 49), (.v 31), (.v 32), (.v 33)])))))))))))
theorem split_Down_c : compile envIrSp 3000 10 = .ok split_Down_ir := by kernel_rfl
theorem split_Down_p : paramShape Tryd.prog 10 = some [(true, 2), (true, 3), (false, 1), (false, 1), (false, 1), (false, 1)] := by kernel_rfl
def atlasref20_Down_ir : IR :=
 (.loop ([(.c (.i .i64 0)), (.v 5), (.v 6)] ++ vr 0 5)
 (.lt (.bin .gtr (.v 11) (.v 8)) (.ite (.v 17)
 (.call 32 [(false, [(.v 7)]), (false, [(.v 11)])] [(false, 1)]
 (.call 31 [(true, [(.v 12), (.v 13)]), (false, [(.v 10)]), (false, [(.v 18)])] [(true, 11)]
 (.call 16 [(true, (vr 19 11))] [(false, 1)]
 (.ite (.v 30)
 (.ret [(true, [(.v 0), (.v 1)]), (true, [(.v 2), (.v 3), (.v 4)]), (true, [(.c (.i .u64 0)), (.c (.i .i64 0)), (.c (.b false)), (.c (.b false)), (.c (.b false)), (.c (.b false)), (.c (.b false)), (.c (.b false)), (.c (.b false)), (.c (.b false)), (.c (.i .u64 0)), (.c (.i .u64 0)), (.c (.i .u64 0))]), (false, [(.c (.i .i64 6))])])
 (.lt (.un .not (.v 19)) (.ite (.v 31)
 (.call 33 [(true, [(.v 12), (.v 13)]), (true, [(.v 14), (.v 15), (.v 16)])] [(true, 2), (true, 3), (false, 1), (false, 1)]
 (.lt (.bin .neq (.v 38) (.c (.i .i64 0))) (.ite (.v 39)
 (.ret [(true, [(.v 0), (.v 1)]), (true, [(.v 2), (.v 3), (.v 4)]), (true, [(.c (.i .u64 0)), (.c (.i .i64 0)), (.c (.b false)), (.c (.b false)), (.c (.b false)), (.c (.b false)), (.c (.b false)), (.c (.b false)), (.c (.b false)), (.c (.b false)), (.c (.i .u64 0)), (.c (.i .u64 0)), (.c (.i .u64 0))]), (false, [(.v 38)])])
 (.call 23 [(true, [(.v 32), (.v 33)]), (true, [(.v 10), (.v 11), (.c (.b true)), (.c (.b false)), (.c (.b false)), (.c (.b false)), (.c (.b false)), (.c (.b false)), (.c (.b false)), (.c (.b false)), (.c (.i .u64 0)), (.v 37), (.c (.i .u64 0))]), (false, [(.v 7)]), (true, [(.c (.b true)), (.c (.b false)), (.c (.b false)), (.c (.b false)), (.c (.b false)), (.c (.b false)), (.c (.b false)), (.c (.b false)), (.c (.i .u64 0)), (.v 37), (.c (.i .u64 0))])] [(true, 2)]
 (.lt (.bin .sub (.v 11) (.c (.i .i64 1))) (.cont 0 [(.v 9), (.v 37), (.v 42), (.v 40), (.v 41), (.v 34), (.v 35), (.v 36)]))))))
 (.lt (.bin .sub (.v 11) (.c (.i .i64 1))) (.cont 0 ([(.v 9), (.v 28), (.v 32)] ++ vr 12 5)))))))))
 (.call 32 [(false, [(.v 7)]), (false, [(.v 8)])] [(false, 1)]
 (.call 31 [(true, [(.v 12), (.v 13)]), (false, [(.v 10)]), (false, [(.v 18)])] [(true, 11)]
 (.ret [(true, [(.v 12), (.v 13)]), (true, [(.v 14), (.v 15), (.v 16)]), (true, ([(.v 10), (.v 8)] ++ vr 19 11)), (false, [(.c (.i .i64 0))])]))))))
theorem atlasref20_Down_c : compile envIrSp 3000 11 = .ok atlasref20_Down_ir := by kernel_rfl
theorem atlasref20_Down_p : paramShape Tryd.prog 11 = some [(true, 2), (true, 3), (false, 1), (false, 1), (false, 1), (false, 1)] := by kernel_rfl
def split_To_ir : IR :=
 (.loop ([(.c (.i .i64 0))] ++ vr 0 5)
 (.call 27 [(true, [(.v 10), (.v 11)]), (false, [(.v 5)]), (false, [(.v 6)]), (false, [(.v 7)]), (false, [(.v 8)])] [(true, 13)]
 (.lt (.bin .eql (.v 16) (.v 8)) (.ite (.v 28)
 (.ret [(true, [(.v 10), (.v 11)]), (true, [(.v 12), (.v 13), (.v 14)]), (true, (vr 15 13)), (false, [(.c (.i .i64 0))])])
 (.call 34 [(true, (vr 17 11))] [(false, 1)]
 (.lt (.un .not (.v 29)) (.ite (.v 30)
 (.ret [(true, [(.v 10), (.v 11)]), (true, [(.v 12), (.v 13), (.v 14)]), (true, (vr 15 13)), (false, [(.c (.i .i64 0))])])
 (.call 17 [(true, [(.v 10), (.v 11)]), (true, [(.v 12), (.v 13), (.v 14)]), (true, (vr 15 13)), (false, [(.v 7)])] [(true, 2), (true, 3), (false, 1)]
 (.lt (.bin .neq (.v 36) (.c (.i .i64 0))) (.ite (.v 37)
 (.ret [(true, [(.v 0), (.v 1)]), (true, [(.v 2), (.v 3), (.v 4)]), (true, [(.c (.i .u64 0)), (.c (.i .i64 0)), (.c (.b false)), (.c (.b false)), (.c (.b false)), (.c (.b false)), (.c (.b false)), (.c (.b false)), (.c (.b false)), (.c (.b false)), (.c (.i .u64 0)), (.c (.i .u64 0)), (.c (.i .u64 0))]), (false, [(.v 36)])])
 (.cont 0 ([(.v 9)] ++ vr 31 5))))))))))))
theorem split_To_c : compile envIrSp 3000 13 = .ok split_To_ir := by kernel_rfl
theorem split_To_p : paramShape Tryd.prog 13 = some [(true, 2), (true, 3), (false, 1), (false, 1), (false, 1), (false, 1)] := by kernel_rfl
def atlasref20_To_ir : IR :=
 (.loop ([(.c (.i .i64 0))] ++ vr 0 5)
 (.call 15 [(true, [(.v 10), (.v 11)]), (false, [(.v 5)]), (false, [(.v 6)]), (false, [(.v 7)]), (false, [(.v 8)])] [(true, 13)]
 (.lt (.bin .eql (.v 16) (.v 8)) (.ite (.v 28)
 (.ret [(true, [(.v 10), (.v 11)]), (true, [(.v 12), (.v 13), (.v 14)]), (true, (vr 15 13)), (false, [(.c (.i .i64 0))])])
 (.call 16 [(true, (vr 17 11))] [(false, 1)]
 (.lt (.un .not (.v 29)) (.ite (.v 30)
 (.ret [(true, [(.v 10), (.v 11)]), (true, [(.v 12), (.v 13), (.v 14)]), (true, (vr 15 13)), (false, [(.c (.i .i64 0))])])
 (.call 18 [(true, [(.v 10), (.v 11)]), (true, [(.v 12), (.v 13), (.v 14)]), (true, (vr 15 13)), (false, [(.v 7)])] [(true, 2), (true, 3), (false, 1)]
 (.lt (.bin .neq (.v 36) (.c (.i .i64 0))) (.ite (.v 37)
 (.ret [(true, [(.v 0), (.v 1)]), (true, [(.v 2), (.v 3), (.v 4)]), (true, [(.c (.i .u64 0)), (.c (.i .i64 0)), (.c (.b false)), (.c (.b false)), (.c (.b false)), (.c (.b false)), (.c (.b false)), (.c (.b false)), (.c (.b false)), (.c (.b false)), (.c (.i .u64 0)), (.c (.i .u64 0)), (.c (.i .u64 0))]), (false, [(.v 36)])])
 (.cont 0 ([(.v 9)] ++ vr 31 5))))))))))))
theorem atlasref20_To_c : compile envIrSp 3000 14 = .ok atlasref20_To_ir := by kernel_rfl
theorem atlasref20_To_p : paramShape Tryd.prog 14 = some [(true, 2), (true, 3), (false, 1), (false, 1), (false, 1), (false, 1)] := by kernel_rfl
def split_Leaf_ir : IR :=
 (.call 28 [(true, [(.v 0), (.v 1)]), (true, [(.v 2), (.v 3), (.v 4)])] [(true, 2), (true, 3), (false, 1), (false, 1)]
 (.lt (.bin .neq (.v 25) (.c (.i .i64 0))) (.ite (.v 26)
 (.ret [(true, [(.v 0), (.v 1)]), (true, [(.v 2), (.v 3), (.v 4)]), (false, [(.v 25)])])
 (.call 36 [(false, [(.v 18)]), (false, [(.v 6)])] [(false, 1)]
 (.loop [(.c (.i .u64 0)), (.v 19), (.v 20), (.v 16)]
 (.lt (.bin .lss (.v 28) (.c (.i .u64 512))) (.ite (.v 32)
 (.lt (.bin .sub (.v 6) (.c (.i .i64 1))) (.call 37 [(false, [(.v 33)])] [(false, 1)]
 (.lt (.bin .mul (.v 28) (.v 34)) (.lt (.bin .quo (.v 35) (.c (.i .u64 4096))) (.lt (.bin .add (.v 16) (.v 36)) (.lt (.bin .sub (.v 6) (.c (.i .i64 1))) (.lt (.bin .sub (.v 6) (.c (.i .i64 1))) (.call 37 [(false, [(.v 39)])] [(false, 1)]
 (.lt (.bin .mul (.v 28) (.v 40)) (.lt (.bin .add (.v 27) (.v 41)) (.call 29 [(true, [(.v 29), (.v 30)]), (true, [(.v 24), (.v 38), (.c (.b false)), (.c (.b false)), (.c (.b false)), (.c (.b false)), (.c (.b false)), (.c (.b false)), (.c (.b false)), (.c (.b false)), (.c (.i .u64 0)), (.c (.i .u64 0)), (.c (.i .u64 0))]), (false, [(.v 42)]), (true, (vr 7 9 ++ [(.v 37), (.v 17)]))] [(true, 2)]
 (.lt (.bin .add (.v 28) (.c (.i .u64 1))) (.cont 0 [(.v 45), (.v 43), (.v 44), (.v 37)])))))))))))))
 (.call 30 [(false, [(.v 24)])] [(true, 11)]
 (.call 29 [(true, [(.v 29), (.v 30)]), (true, (vr 5 13)), (false, [(.v 18)]), (true, (vr 33 11))] [(true, 2)]
 (.ret [(true, [(.v 44), (.v 45)]), (true, [(.v 21), (.v 22), (.v 23)]), (false, [(.c (.i .i64 0))])]))))))))))
theorem split_Leaf_c : compile envIrSp 3000 17 = .ok split_Leaf_ir := by kernel_rfl
theorem split_Leaf_p : paramShape Tryd.prog 17 = some [(true, 2), (true, 3), (true, 13), (false, 1)] := by kernel_rfl
def atlasref20_Leaf_ir : IR :=
 (.call 33 [(true, [(.v 0), (.v 1)]), (true, [(.v 2), (.v 3), (.v 4)])] [(true, 2), (true, 3), (false, 1), (false, 1)]
 (.lt (.bin .neq (.v 25) (.c (.i .i64 0))) (.ite (.v 26)
 (.ret [(true, [(.v 0), (.v 1)]), (true, [(.v 2), (.v 3), (.v 4)]), (false, [(.v 25)])])
 (.loop [(.c (.i .u64 0)), (.c (.sl 0 []))]
 (.lt (.bin .lss (.v 27) (.c (.i .u64 512))) (.ite (.v 29)
 (.lt (.bin .sub (.v 6) (.c (.i .i64 1))) (.call 38 [(false, [(.v 30)])] [(false, 1)]
 (.lt (.bin .mul (.v 27) (.v 31)) (.lt (.bin .add (.v 16) (.v 32)) (.lt (.bin .mul (.c (.i .u64 512)) (.v 24)) (.lt (.bin .add (.v 34) (.v 27)) (.call 39 [(true, (vr 7 9 ++ [(.v 33), (.v 17)]))] [(false, 1)]
 (.chk (.room (.len (.app 2 (.v 28) (.one [(.v 35), (.v 36)]))) 17) (.lt (.bin .add (.v 27) (.c (.i .u64 1))) (.cont 0 [(.v 37), (.app 2 (.v 28) (.one [(.v 35), (.v 36)]))]))))))))))
 (.loop [(.c (.b false)), (.c (.i .i64 0)), (.c (.sl 0 []))]
 (.lt (.len (.v 20)) (.lt (.bin .lss (.v 31) (.v 33)) (.ite (.v 34)
 (.lt (.un .not (.v 30)) (.ite (.v 35)
 (.chk (.inb (.v 20) (.v 31) 2) (.lt (.bin .mul (.c (.i .u64 512)) (.v 24)) (.lt (.bin .geq (.idx (.v 20) (.v 31) 0) (.v 36)) (.ite (.v 37)
 (.chk (.room (.len (.app 2 (.v 32) (.v 28))) 17) (.chk (.inb (.v 20) (.v 31) 2) (.chk (.room (.len (.app 2 (.app 2 (.v 32) (.v 28)) (.one [(.idx (.v 20) (.v 31) 0), (.idx (.v 20) (.v 31) 1)]))) 17) (.lt (.bin .add (.v 31) (.c (.i .i64 1))) (.cont 1 [(.c (.b true)), (.v 38), (.app 2 (.app 2 (.v 32) (.v 28)) (.one [(.idx (.v 20) (.v 31) 0), (.idx (.v 20) (.v 31) 1)]))])))))
 (.chk (.inb (.v 20) (.v 31) 2) (.chk (.room (.len (.app 2 (.v 32) (.one [(.idx (.v 20) (.v 31) 0), (.idx (.v 20) (.v 31) 1)]))) 17) (.lt (.bin .add (.v 31) (.c (.i .i64 1))) (.cont 1 [(.v 30), (.v 38), (.app 2 (.v 32) (.one [(.idx (.v 20) (.v 31) 0), (.idx (.v 20) (.v 31) 1)]))]))))))))
 (.chk (.inb (.v 20) (.v 31) 2) (.chk (.room (.len (.app 2 (.v 32) (.one [(.idx (.v 20) (.v 31) 0), (.idx (.v 20) (.v 31) 1)]))) 17) (.lt (.bin .add (.v 31) (.c (.i .i64 1))) (.cont 1 [(.v 30), (.v 36), (.app 2 (.v 32) (.one [(.idx (.v 20) (.v 31) 0), (.idx (.v 20) (.v 31) 1)]))]))))))
 (.lt (.un .not (.v 30)) (.ite (.v 35)
 (.chk (.room (.len (.app 2 (.v 32) (.v 28))) 17) (.call 23 [(true, [(.v 19), (.app 2 (.v 32) (.v 28))]), (true, (vr 5 13)), (false, [(.v 18)]), (true, [(.c (.b true)), (.c (.b false)), (.c (.b false)), (.c (.b false)), (.c (.b false)), (.c (.b false)), (.c (.b false)), (.c (.b false)), (.c (.i .u64 0)), (.v 24), (.c (.i .u64 0))])] [(true, 2)]
 (.ret [(true, [(.v 36), (.v 37)]), (true, [(.v 21), (.v 22), (.v 23)]), (false, [(.c (.i .i64 0))])])))
 (.call 23 [(true, [(.v 19), (.v 32)]), (true, (vr 5 13)), (false, [(.v 18)]), (true, [(.c (.b true)), (.c (.b false)), (.c (.b false)), (.c (.b false)), (.c (.b false)), (.c (.b false)), (.c (.b false)), (.c (.b false)), (.c (.i .u64 0)), (.v 24), (.c (.i .u64 0))])] [(true, 2)]
 (.ret [(true, [(.v 36), (.v 37)]), (true, [(.v 21), (.v 22), (.v 23)]), (false, [(.c (.i .i64 0))])]))))))))))))))
theorem atlasref20_Leaf_c : compile envIrSp 3000 18 = .ok atlasref20_Leaf_ir := by kernel_rfl
theorem atlasref20_Leaf_p : paramShape Tryd.prog 18 = some [(true, 2), (true, 3), (true, 13), (false, 1)] := by kernel_rfl
def atlasref20_Prune_ir : IR :=
 (.loop ([(.c (.i .i64 0))] ++ vr 0 5)
 (.lt (.bin .lss (.v 8) (.v 6)) (.ite (.v 14)
 (.lt (.bin .add (.v 8) (.c (.i .i64 1))) (.call 15 [(true, [(.v 9), (.v 10)]), (false, [(.v 5)]), (false, [(.v 6)]), (false, [(.v 7)]), (false, [(.v 15)])] [(true, 13)]
 (.lt (.bin .add (.v 8) (.c (.i .i64 1))) (.lt (.bin .neq (.v 17) (.v 29)) (.ite (.v 30)
 (.lt (.bin .add (.v 8) (.c (.i .i64 1))) (.cont 0 ([(.v 31)] ++ vr 9 5)))
 (.call 41 [(true, (vr 18 11))] [(false, 1)]
 (.lt (.un .not (.v 31)) (.ite (.v 32)
 (.lt (.bin .add (.v 8) (.c (.i .i64 1))) (.cont 0 ([(.v 33)] ++ vr 9 5)))
 (.call 42 [(true, [(.v 9), (.v 10)]), (false, [(.v 27)])] [(false, 1)]
 (.lt (.un .not (.v 33)) (.ite (.v 34)
 (.lt (.bin .add (.v 8) (.c (.i .i64 1))) (.cont 0 ([(.v 35)] ++ vr 9 5)))
 (.call 43 [(true, [(.v 9), (.v 10)]), (true, [(.v 11), (.v 12), (.v 13)]), (false, [(.v 27)])] [(true, 2), (true, 3)]
 (.call 23 [(true, [(.v 35), (.v 36)]), (true, (vr 16 13)), (false, [(.v 7)]), (true, [(.c (.b false)), (.c (.b false)), (.c (.b false)), (.c (.b false)), (.c (.b false)), (.c (.b false)), (.c (.b false)), (.c (.b false)), (.c (.i .u64 0)), (.c (.i .u64 0)), (.c (.i .u64 0))])] [(true, 2)]
 (.lt (.bin .add (.v 8) (.c (.i .i64 1))) (.cont 0 [(.v 42), (.v 40), (.v 41), (.v 37), (.v 38), (.v 39)])))))))))))))))
 (.ret [(true, [(.v 9), (.v 10)]), (true, [(.v 11), (.v 12), (.v 13)])]))))
theorem atlasref20_Prune_c : compile envIrSp 3000 20 = .ok atlasref20_Prune_ir := by kernel_rfl
theorem atlasref20_Prune_p : paramShape Tryd.prog 20 = some [(true, 2), (true, 3), (false, 1), (false, 1), (false, 1)] := by kernel_rfl
def atlasref19_With_ir : IR :=
 (.lt (.bin .mul (.c (.i .u64 512)) (.v 2)) (.call 32 [(false, [(.v 15)]), (false, [(.v 3)])] [(false, 1)]
 (.lt (.cv .u64 (.v 28)) (.lt (.bin .add (.v 27) (.v 29)) (.call 39 [(true, (vr 16 11))] [(false, 1)]
 (.call 49 [(true, [(.v 0), (.v 1)]), (false, [(.v 30)]), (false, [(.v 31)])] [(true, 2)]
 (.ret [(true, [(.v 32), (.v 33)])])))))))
theorem atlasref19_With_c : compile envIrSp 3000 23 = .ok atlasref19_With_ir := by kernel_rfl
theorem atlasref19_With_p : paramShape Tryd.prog 23 = some [(true, 2), (true, 13), (false, 1), (true, 11)] := by kernel_rfl
def atlasref20_Fits_ir : IR :=
 (.call 50 [(true, [(.v 0), (.v 1)])] [(false, 1)]
 (.lt (.un .not (.v 7)) (.ite (.v 8)
 (.ret [(false, [(.c (.b false))])])
 (.call 51 [(true, [(.v 2), (.v 3), (.v 4)])] [(false, 1)]
 (.lt (.un .not (.v 9)) (.ite (.v 10)
 (.ret [(false, [(.c (.b false))])])
 (.lt (.cv .u64 (.v 3)) (.lt (.bin .add (.v 2) (.v 11)) (.lt (.bin .mul (.v 12) (.c (.i .u64 4096))) (.lt (.bin .gtr (.v 13) (.v 0)) (.ite (.v 14)
 (.ret [(false, [(.c (.b false))])])
 (.call 52 [(true, [(.v 0), (.v 1)]), (false, [(.v 5)]), (false, [(.v 6)]), (false, [(.c (.sl 0 []))])] [(false, 1), (false, 1)]
 (.lt (.un .not (.v 16)) (.ite (.v 17)
 (.ret [(false, [(.c (.b false))])])
 (.loop [(.c (.b false)), (.c (.i .i64 1))]
 (.lt (.len (.v 15)) (.lt (.bin .lss (.v 19) (.v 20)) (.ite (.v 21)
 (.chk (.inb (.v 15) (.v 19) 1) (.call 53 [(true, [(.v 2), (.v 3), (.v 4)]), (false, [(.idx (.v 15) (.v 19) 0)])] [(false, 1)]
 (.lt (.un .not (.v 22)) (.ite (.v 23)
 (.ret [(false, [(.c (.b false))])])
 (.lt (.bin .add (.v 19) (.c (.i .i64 1))) (.cont 0 [(.v 18), (.v 24)]))))))
 (.call 54 [(true, [(.v 0), (.v 1)]), (false, [(.v 5)]), (false, [(.v 6)])] [(false, 1)]
 (.ite (.v 22)
 (.call 55 [(true, [(.v 2), (.v 3), (.v 4)]), (false, [(.v 5)])] [(false, 1)]
 (.lt (.un .not (.v 23)) (.ite (.v 24)
 (.ret [(false, [(.c (.b true))])])
 (.call 53 [(true, [(.v 2), (.v 3), (.v 4)]), (false, [(.v 5)])] [(false, 1)]
 (.ret [(false, [(.v 25)])])))))
 (.ret [(false, [(.c (.b false))])])))))))))))))))))))))
theorem atlasref20_Fits_c : compile envIrSp 3000 25 = .ok atlasref20_Fits_ir := by kernel_rfl
theorem atlasref20_Fits_p : paramShape Tryd.prog 25 = some [(true, 2), (true, 3), (false, 1), (false, 1)] := by kernel_rfl
def split_link_ir : IR :=
 (.ret [(true, [(.c (.b true)), (.c (.b false)), (.c (.b false)), (.c (.b false)), (.c (.b false)), (.c (.b false)), (.c (.b false)), (.c (.b false)), (.c (.i .u64 0)), (.v 0), (.c (.i .u64 0))])])
theorem split_link_c : compile envIrSp 3000 30 = .ok split_link_ir := by kernel_rfl
theorem split_link_p : paramShape Tryd.prog 30 = some [(false, 1)] := by kernel_rfl
def atlasref06_Put_ir : IR :=
 (.lt (.bin .mul (.c (.i .u64 256)) (.v 8)) (.lt (.bin .mul (.c (.i .u64 1024)) (.v 9)) (.lt (.bin .add (.v 11) (.v 12)) (.lt (.bin .mul (.c (.i .u64 18014398509481984)) (.v 10)) (.lt (.bin .add (.v 13) (.v 14)) (.loop [(.v 15), (.c (.i .u64 1)), (.c (.i .i64 0))]
 (.lt (.bin .lss (.v 18) (.c (.i .i64 8))) (.ite (.v 19)
 (.chk (.inb (.cat (.one [(.v 0)]) (.cat (.one [(.v 1)]) (.cat (.one [(.v 2)]) (.cat (.one [(.v 3)]) (.cat (.one [(.v 4)]) (.cat (.one [(.v 5)]) (.cat (.one [(.v 6)]) (.one [(.v 7)])))))))) (.v 18) 1) (.chk (.inb (.cat (.one [(.v 0)]) (.cat (.one [(.v 1)]) (.cat (.one [(.v 2)]) (.cat (.one [(.v 3)]) (.cat (.one [(.v 4)]) (.cat (.one [(.v 5)]) (.cat (.one [(.v 6)]) (.one [(.v 7)])))))))) (.v 18) 1) (.ite (.idx (.cat (.one [(.v 0)]) (.cat (.one [(.v 1)]) (.cat (.one [(.v 2)]) (.cat (.one [(.v 3)]) (.cat (.one [(.v 4)]) (.cat (.one [(.v 5)]) (.cat (.one [(.v 6)]) (.one [(.v 7)])))))))) (.v 18) 0)
 (.lt (.bin .add (.v 16) (.v 17)) (.lt (.bin .mul (.c (.i .u64 2)) (.v 17)) (.lt (.bin .add (.v 18) (.c (.i .i64 1))) (.cont 0 [(.v 20), (.v 21), (.v 22)]))))
 (.lt (.bin .mul (.c (.i .u64 2)) (.v 17)) (.lt (.bin .add (.v 18) (.c (.i .i64 1))) (.cont 0 [(.v 16), (.v 20), (.v 21)]))))))
 (.ret [(false, [(.v 16)])])))))))))
theorem atlasref06_Put_c : compile envIrSp 3000 39 = .ok atlasref06_Put_ir := by kernel_rfl
theorem atlasref06_Put_p : paramShape Tryd.prog 39 = some [(true, 11)] := by kernel_rfl
def atlasref19_Empty_ir : IR :=
 (.loop [(.c (.b false)), (.c (.i .i64 0))]
 (.lt (.len (.v 1)) (.lt (.bin .lss (.v 4) (.v 5)) (.ite (.v 6)
 (.chk (.inb (.v 1) (.v 4) 2) (.lt (.bin .quo (.idx (.v 1) (.v 4) 0) (.c (.i .u64 512))) (.lt (.bin .eql (.v 7) (.v 2)) (.ite (.v 8)
 (.ret [(false, [(.c (.b false))])])
 (.lt (.bin .add (.v 4) (.c (.i .i64 1))) (.cont 0 [(.v 3), (.v 9)]))))))
 (.ret [(false, [(.c (.b true))])])))))
theorem atlasref19_Empty_c : compile envIrSp 3000 42 = .ok atlasref19_Empty_ir := by kernel_rfl
theorem atlasref19_Empty_p : paramShape Tryd.prog 42 = some [(true, 2), (false, 1)] := by kernel_rfl
def atlasref20_clean_ir : IR :=
 (.loop [(.c (.b false)), (.c (.i .i64 0))]
 (.lt (.bin .lss (.v 5) (.c (.i .i64 512))) (.ite (.v 6)
 (.call 31 [(true, [(.v 0), (.v 1)]), (false, [(.v 2)]), (false, [(.v 5)])] [(true, 11)]
 (.lt (.ite (.eqt true (.v 7) (.c (.b false))) (.ite (.eqt true (.v 8) (.c (.b false))) (.ite (.eqt true (.v 9) (.c (.b false))) (.ite (.eqt true (.v 10) (.c (.b false))) (.ite (.eqt true (.v 11) (.c (.b false))) (.ite (.eqt true (.v 12) (.c (.b false))) (.ite (.eqt true (.v 13) (.c (.b false))) (.ite (.eqt true (.v 14) (.c (.b false))) (.ite (.eqt false (.v 15) (.c (.i .u64 0))) (.ite (.eqt false (.v 16) (.c (.i .u64 0))) (.ite (.eqt false (.v 17) (.c (.i .u64 0))) (.c (.b true)) (.c (.b false))) (.c (.b false))) (.c (.b false))) (.c (.b false))) (.c (.b false))) (.c (.b false))) (.c (.b false))) (.c (.b false))) (.c (.b false))) (.c (.b false))) (.c (.b false))) (.ite (.v 18)
 (.lt (.bin .add (.v 5) (.c (.i .i64 1))) (.cont 0 [(.v 4), (.v 19)]))
 (.call 45 [(true, (vr 7 11)), (false, [(.v 3)])] [(false, 1)]
 (.ite (.v 19)
 (.ret [(false, [(.c (.b false))])])
 (.call 41 [(true, (vr 7 11))] [(false, 1)]
 (.ite (.v 20)
 (.lt (.bin .sub (.v 3) (.c (.i .i64 1))) (.call 54 [(true, [(.v 0), (.v 1)]), (false, [(.v 16)]), (false, [(.v 21)])] [(false, 1)]
 (.lt (.un .not (.v 22)) (.ite (.v 23)
 (.ret [(false, [(.c (.b false))])])
 (.lt (.bin .add (.v 5) (.c (.i .i64 1))) (.cont 0 [(.v 4), (.v 24)]))))))
 (.lt (.bin .add (.v 5) (.c (.i .i64 1))) (.cont 0 [(.v 4), (.v 21)])))))))))
 (.ret [(false, [(.c (.b true))])]))))
theorem atlasref20_clean_c : compile envIrSp 3000 54 = .ok atlasref20_clean_ir := by kernel_rfl
theorem atlasref20_clean_p : paramShape Tryd.prog 54 = some [(true, 2), (false, 1), (false, 1)] := by kernel_rfl
def atlasref20_InPool_ir : IR :=
 (.lt (.bin .geq (.v 3) (.v 0)) (.ite (.v 4)
 (.lt (.cv .u64 (.v 1)) (.lt (.bin .add (.v 0) (.v 5)) (.lt (.bin .lss (.v 3) (.v 6)) (.ret [(false, [(.v 7)])]))))
 (.ret [(false, [(.c (.b false))])])))
theorem atlasref20_InPool_c : compile envIrSp 3000 55 = .ok atlasref20_InPool_ir := by kernel_rfl
theorem atlasref20_InPool_p : paramShape Tryd.prog 55 = some [(true, 3), (false, 1)] := by kernel_rfl
def inlenvIrSpP : List FuncId :=
 40 ::
 71 ::
 []
noncomputable def envIrSpP : Env := { P := Tryd.prog, G := gAll, inl := inlenvIrSpP, unr := [], ded := true, dmax := 3 }
def split_Prune_ir : IR :=
 (.call 27 [(true, [(.v 0), (.v 1)]), (false, [(.v 5)]), (false, [(.v 6)]), (false, [(.v 7)]), (false, [(.v 6)])] [(true, 13)]
 (.call 69 [(true, (vr 10 11))] [(false, 1)]
 (.lt (.un .not (.v 21)) (.ite (.v 22)
 (.ret [(true, [(.v 0), (.v 1)]), (true, [(.v 2), (.v 3), (.v 4)])])
 (.call 70 [(true, (vr 10 11)), (false, [(.v 6)])] [(false, 1)]
 (.ite (.v 23)
 (.ret [(true, [(.v 0), (.v 1)]), (true, [(.v 2), (.v 3), (.v 4)])])
 (.lt (.bin .sub (.v 6) (.c (.i .i64 1))) (.call 27 [(true, [(.v 0), (.v 1)]), (false, [(.v 19)]), (false, [(.v 24)]), (false, [(.v 7)]), (false, [(.v 24)])] [(true, 13)]
 (.call 69 [(true, (vr 27 11))] [(false, 1)]
 (.lt (.un .not (.v 38)) (.ite (.v 39)
 (.call 87 [(true, [(.v 0), (.v 1)]), (false, [(.v 19)])] [(false, 1)]
 (.ite (.v 40)
 (.call 88 [(true, [(.v 0), (.v 1)]), (true, [(.v 2), (.v 3), (.v 4)]), (false, [(.v 19)])] [(true, 2), (true, 3)]
 (.call 29 [(true, [(.v 41), (.v 42)]), (true, (vr 8 13)), (false, [(.v 7)]), (true, [(.c (.b false)), (.c (.b false)), (.c (.b false)), (.c (.b false)), (.c (.b false)), (.c (.b false)), (.c (.b false)), (.c (.b false)), (.c (.i .u64 0)), (.c (.i .u64 0)), (.c (.i .u64 0))])] [(true, 2)]
 (.ret [(true, [(.v 46), (.v 47)]), (true, [(.v 43), (.v 44), (.v 45)])])))
 (.ret [(true, [(.v 0), (.v 1)]), (true, [(.v 2), (.v 3), (.v 4)])])))
 (.call 70 [(true, (vr 27 11)), (false, [(.v 24)])] [(false, 1)]
 (.ite (.v 40)
 (.call 87 [(true, [(.v 0), (.v 1)]), (false, [(.v 19)])] [(false, 1)]
 (.ite (.v 41)
 (.call 88 [(true, [(.v 0), (.v 1)]), (true, [(.v 2), (.v 3), (.v 4)]), (false, [(.v 19)])] [(true, 2), (true, 3)]
 (.call 29 [(true, [(.v 42), (.v 43)]), (true, (vr 8 13)), (false, [(.v 7)]), (true, [(.c (.b false)), (.c (.b false)), (.c (.b false)), (.c (.b false)), (.c (.b false)), (.c (.b false)), (.c (.b false)), (.c (.b false)), (.c (.i .u64 0)), (.c (.i .u64 0)), (.c (.i .u64 0))])] [(true, 2)]
 (.ret [(true, [(.v 47), (.v 48)]), (true, [(.v 44), (.v 45), (.v 46)])])))
 (.ret [(true, [(.v 0), (.v 1)]), (true, [(.v 2), (.v 3), (.v 4)])])))
 (.lt (.bin .sub (.v 24) (.c (.i .i64 1))) (.call 27 [(true, [(.v 0), (.v 1)]), (false, [(.v 36)]), (false, [(.v 41)]), (false, [(.v 7)]), (false, [(.v 41)])] [(true, 13)]
 (.call 69 [(true, (vr 44 11))] [(false, 1)]
 (.lt (.un .not (.v 55)) (.ite (.v 56)
 (.call 87 [(true, [(.v 0), (.v 1)]), (false, [(.v 36)])] [(false, 1)]
 (.ite (.v 57)
 (.call 88 [(true, [(.v 0), (.v 1)]), (true, [(.v 2), (.v 3), (.v 4)]), (false, [(.v 36)])] [(true, 2), (true, 3)]
 (.call 29 [(true, [(.v 58), (.v 59)]), (true, (vr 25 13)), (false, [(.v 7)]), (true, [(.c (.b false)), (.c (.b false)), (.c (.b false)), (.c (.b false)), (.c (.b false)), (.c (.b false)), (.c (.b false)), (.c (.b false)), (.c (.i .u64 0)), (.c (.i .u64 0)), (.c (.i .u64 0))])] [(true, 2)]
 (.call 87 [(true, [(.v 63), (.v 64)]), (false, [(.v 19)])] [(false, 1)]
 (.ite (.v 65)
 (.call 88 [(true, [(.v 63), (.v 64)]), (true, [(.v 60), (.v 61), (.v 62)]), (false, [(.v 19)])] [(true, 2), (true, 3)]
 (.call 29 [(true, [(.v 66), (.v 67)]), (true, (vr 8 13)), (false, [(.v 7)]), (true, [(.c (.b false)), (.c (.b false)), (.c (.b false)), (.c (.b false)), (.c (.b false)), (.c (.b false)), (.c (.b false)), (.c (.b false)), (.c (.i .u64 0)), (.c (.i .u64 0)), (.c (.i .u64 0))])] [(true, 2)]
 (.ret [(true, [(.v 71), (.v 72)]), (true, [(.v 68), (.v 69), (.v 70)])])))
 (.ret [(true, [(.v 63), (.v 64)]), (true, [(.v 60), (.v 61), (.v 62)])])))))
 (.call 87 [(true, [(.v 0), (.v 1)]), (false, [(.v 19)])] [(false, 1)]
 (.ite (.v 58)
 (.call 88 [(true, [(.v 0), (.v 1)]), (true, [(.v 2), (.v 3), (.v 4)]), (false, [(.v 19)])] [(true, 2), (true, 3)]
 (.call 29 [(true, [(.v 59), (.v 60)]), (true, (vr 8 13)), (false, [(.v 7)]), (true, [(.c (.b false)), (.c (.b false)), (.c (.b false)), (.c (.b false)), (.c (.b false)), (.c (.b false)), (.c (.b false)), (.c (.b false)), (.c (.i .u64 0)), (.c (.i .u64 0)), (.c (.i .u64 0))])] [(true, 2)]
 (.ret [(true, [(.v 64), (.v 65)]), (true, [(.v 61), (.v 62), (.v 63)])])))
 (.ret [(true, [(.v 0), (.v 1)]), (true, [(.v 2), (.v 3), (.v 4)])])))))
 (.call 70 [(true, (vr 44 11)), (false, [(.v 41)])] [(false, 1)]
 (.ite (.v 57)
 (.call 87 [(true, [(.v 0), (.v 1)]), (false, [(.v 36)])] [(false, 1)]
 (.ite (.v 58)
 (.call 88 [(true, [(.v 0), (.v 1)]), (true, [(.v 2), (.v 3), (.v 4)]), (false, [(.v 36)])] [(true, 2), (true, 3)]
 (.call 29 [(true, [(.v 59), (.v 60)]), (true, (vr 25 13)), (false, [(.v 7)]), (true, [(.c (.b false)), (.c (.b false)), (.c (.b false)), (.c (.b false)), (.c (.b false)), (.c (.b false)), (.c (.b false)), (.c (.b false)), (.c (.i .u64 0)), (.c (.i .u64 0)), (.c (.i .u64 0))])] [(true, 2)]
 (.call 87 [(true, [(.v 64), (.v 65)]), (false, [(.v 19)])] [(false, 1)]
 (.ite (.v 66)
 (.call 88 [(true, [(.v 64), (.v 65)]), (true, [(.v 61), (.v 62), (.v 63)]), (false, [(.v 19)])] [(true, 2), (true, 3)]
 (.call 29 [(true, [(.v 67), (.v 68)]), (true, (vr 8 13)), (false, [(.v 7)]), (true, [(.c (.b false)), (.c (.b false)), (.c (.b false)), (.c (.b false)), (.c (.b false)), (.c (.b false)), (.c (.b false)), (.c (.b false)), (.c (.i .u64 0)), (.c (.i .u64 0)), (.c (.i .u64 0))])] [(true, 2)]
 (.ret [(true, [(.v 72), (.v 73)]), (true, [(.v 69), (.v 70), (.v 71)])])))
 (.ret [(true, [(.v 64), (.v 65)]), (true, [(.v 61), (.v 62), (.v 63)])])))))
 (.call 87 [(true, [(.v 0), (.v 1)]), (false, [(.v 19)])] [(false, 1)]
 (.ite (.v 59)
 (.call 88 [(true, [(.v 0), (.v 1)]), (true, [(.v 2), (.v 3), (.v 4)]), (false, [(.v 19)])] [(true, 2), (true, 3)]
 (.call 29 [(true, [(.v 60), (.v 61)]), (true, (vr 8 13)), (false, [(.v 7)]), (true, [(.c (.b false)), (.c (.b false)), (.c (.b false)), (.c (.b false)), (.c (.b false)), (.c (.b false)), (.c (.b false)), (.c (.b false)), (.c (.i .u64 0)), (.c (.i .u64 0)), (.c (.i .u64 0))])] [(true, 2)]
 (.ret [(true, [(.v 65), (.v 66)]), (true, [(.v 62), (.v 63), (.v 64)])])))
 (.ret [(true, [(.v 0), (.v 1)]), (true, [(.v 2), (.v 3), (.v 4)])])))))
 (.lt (.bin .sub (.v 41) (.c (.i .i64 1))) (.chk (.c (.b false)) (.ret [])))))))))))))))))))))))
theorem split_Prune_c : compile envIrSpP 3000 19 = .ok split_Prune_ir := by kernel_rfl
theorem split_Prune_p : paramShape Tryd.prog 19 = some [(true, 2), (true, 3), (false, 1), (false, 1), (false, 1)] := by kernel_rfl
def inlenvIrSpF : List FuncId :=
 100 ::
 []
def itsenvIrSpF : List (FuncId × Shape) :=
 (108, [(false, 1), (true, 11)]) ::
 []
noncomputable def envIrSpF : Env := { P := Tryd.prog, G := gAll, inl := inlenvIrSpF, unr := [], ded := true, its := itsenvIrSpF }
def atlaslaw20_few_ir : IR :=
 (.lt (.len (.v 1)) (.lt (.bin .leq (.v 7) (.c (.i .i64 1500))) (.ite (.v 8)
 (.call 25 [(true, [(.v 0), (.v 1)]), (true, [(.v 2), (.v 3), (.v 4)]), (false, [(.v 5)]), (false, [(.v 6)])] [(false, 1)]
 (.ite (.v 9)
 (.call 26 [(true, [(.v 0), (.v 1)]), (false, [(.v 5)]), (false, [(.v 6)])] [(false, 1)]
 (.lt (.len (.v 10)) (.lt (.bin .leq (.v 11) (.c (.i .i64 60))) (.ret [(false, [(.v 12)])]))))
 (.ret [(false, [(.c (.b false))])])))
 (.ret [(false, [(.c (.b false))])]))))
theorem atlaslaw20_few_c : compile envIrSpF 3000 8 = .ok atlaslaw20_few_ir := by kernel_rfl
theorem atlaslaw20_few_p : paramShape Tryd.prog 8 = some [(true, 2), (true, 3), (false, 1), (false, 1)] := by kernel_rfl
def atlasref19_Frames_ir : IR :=
 (.loop [(.c (.i .i64 0)), (.one [(.v 2)])]
 (.lt (.bin .lss (.v 4) (.c (.i .i64 512))) (.ite (.v 6)
 (.call 31 [(true, [(.v 0), (.v 1)]), (false, [(.v 2)]), (false, [(.v 4)])] [(true, 11)]
 (.call 35 [(true, (vr 7 11)), (false, [(.v 3)])] [(false, 1)]
 (.ite (.v 18)
 (.lt (.bin .sub (.v 3) (.c (.i .i64 1))) (.call 26 [(true, [(.v 0), (.v 1)]), (false, [(.v 16)]), (false, [(.v 19)])] [(false, 1)]
 (.chk (.room (.len (.app 1 (.v 5) (.v 20))) 9) (.lt (.bin .add (.v 4) (.c (.i .i64 1))) (.cont 0 [(.v 21), (.app 1 (.v 5) (.v 20))])))))
 (.lt (.bin .add (.v 4) (.c (.i .i64 1))) (.cont 0 [(.v 19), (.v 5)])))))
 (.ret [(false, [(.v 5)])]))))
theorem atlasref19_Frames_c : compile envIrSpF 3000 26 = .ok atlasref19_Frames_ir := by kernel_rfl
theorem atlasref19_Frames_p : paramShape Tryd.prog 26 = some [(true, 2), (false, 1), (false, 1)] := by kernel_rfl
end Go.Proofs.YtnkjmocacielmaaDoor.Sx
