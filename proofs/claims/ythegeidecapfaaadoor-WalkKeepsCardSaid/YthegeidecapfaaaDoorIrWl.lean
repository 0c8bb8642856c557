/-
  IRs of functions, printed by a program of mine (wip/tools/mkir.py, ev.run.lean); each is checked by the kernel against the executor.
-/
import Derived.Test.YthegeidecapfaaaDoorBf
import Derived.Test.YthegeidecapfaaaDoorProg
namespace Go.Proofs.YthegeidecapfaaaDoor.Sx
open Go
set_option maxRecDepth 100000
noncomputable def envIrWl : Env := { P := Tryd.prog, G := gAll, inl := [], unr := [], ded := true }
/-- atlas/atlaslaw10.WalkLooks -/
def atlaslaw10_WalkLooks_ir : IR :=
  (.call 9 [] [(false, 1)]
  (.lt (.un .not (.v 5)) (.ite (.v 6)
  (.call 9 [] [(false, 1)]
  (.ret [(false, [(.v 7)])]))
  (.call 10 [(true, [(.v 0), (.v 1)]), (false, [(.v 2)])] [(false, 1)]
  (.lt (.un .not (.v 7)) (.ite (.v 8)
  (.call 9 [] [(false, 1)]
  (.ret [(false, [(.v 9)])]))
  (.lt (.bin .rem (.v 4) (.c (.i .u8 3))) (.lt (.cv .i64 (.v 9)) (.call 11 [(true, [(.v 0), (.v 1)]), (false, [(.v 2)]), (false, [(.v 3)]), (false, [(.v 10)])] [(true, 13), (true, 3)]
  (.lt (.bin .rem (.v 4) (.c (.i .u8 3))) (.lt (.cv .i64 (.v 27)) (.call 12 [(true, [(.v 0), (.v 1)]), (false, [(.v 2)]), (false, [(.v 3)]), (false, [(.v 28)])] [(true, 13), (true, 3)]
  (.lt (.ite (.eqt false (.v 11) (.v 29)) (.ite (.eqt false (.v 12) (.v 30)) (.ite (.eqt true (.v 13) (.v 31)) (.ite (.eqt true (.v 14) (.v 32)) (.ite (.eqt true (.v 15) (.v 33)) (.ite (.eqt true (.v 16) (.v 34)) (.ite (.eqt true (.v 17) (.v 35)) (.ite (.eqt true (.v 18) (.v 36)) (.ite (.eqt true (.v 19) (.v 37)) (.ite (.eqt true (.v 20) (.v 38)) (.ite (.eqt false (.v 21) (.v 39)) (.ite (.eqt false (.v 22) (.v 40)) (.ite (.eqt false (.v 23) (.v 41)) (.c (.b true)) (.c (.b false))) (.c (.b false))) (.c (.b false))) (.c (.b false))) (.c (.b false))) (.c (.b false))) (.c (.b false))) (.c (.b false))) (.c (.b false))) (.c (.b false))) (.c (.b false))) (.c (.b false))) (.c (.b false))) (.ite (.v 45)
  (.lt (.ite (.eqt true (.v 24) (.v 42)) (.ite (.eqt false (.v 25) (.v 43)) (.ite (.eqt false (.v 26) (.v 44)) (.c (.b true)) (.c (.b false))) (.c (.b false))) (.c (.b false))) (.ite (.v 46)
  (.ite (.v 24)
  (.ret [(false, [(.c (.b true))])])
  (.call 13 [(true, (vr 11 13)), (false, [(.v 3)])] [(false, 1)]
  (.call 14 [(true, (vr 29 13)), (false, [(.v 3)])] [(false, 1)]
  (.lt (.bin .eql (.v 47) (.v 48)) (.ret [(false, [(.v 49)])])))))
  (.ret [(false, [(.c (.b false))])])))
  (.ret [(false, [(.c (.b false))])])))))))))))))))
theorem atlaslaw10_WalkLooks_c : compile envIrWl 3000 3 = .ok atlaslaw10_WalkLooks_ir := by kernel_rfl
theorem atlaslaw10_WalkLooks_p : paramShape Tryd.prog 3 = some [(true, 2), (false, 1), (false, 1), (false, 1)] := by kernel_rfl
theorem atlaslaw10_WalkLooks_k : Known gAll 3 (.ir [(true, 2), (false, 1), (false, 1), (false, 1)] atlaslaw10_WalkLooks_ir) := known_ir (E := envIrWl) (n := 3000) rfl rfl atlaslaw10_WalkLooks_c atlaslaw10_WalkLooks_p
/-- atlas/atlaslaw10.WalkWalks -/
def atlaslaw10_WalkWalks_ir : IR :=
  (.call 9 [] [(false, 1)]
  (.lt (.un .not (.v 9)) (.ite (.v 10)
  (.call 9 [] [(false, 1)]
  (.ret [(false, [(.v 11)])]))
  (.call 10 [(true, [(.v 0), (.v 1)]), (false, [(.v 2)])] [(false, 1)]
  (.lt (.un .not (.v 11)) (.ite (.v 12)
  (.call 9 [] [(false, 1)]
  (.ret [(false, [(.v 13)])]))
  (.call 15 [(true, (vr 4 4))] [(false, 1)]
  (.lt (.un .not (.v 13)) (.ite (.v 14)
  (.call 9 [] [(false, 1)]
  (.ret [(false, [(.v 15)])]))
  (.call 16 [(true, [(.v 0), (.v 1)]), (false, [(.v 2)]), (false, [(.v 3)]), (true, (vr 4 4))] [(true, 2), (true, 13), (true, 3)]
  (.call 17 [(true, [(.v 0), (.v 1)]), (false, [(.v 2)]), (false, [(.v 3)]), (true, (vr 4 4))] [(true, 2), (true, 13), (true, 3)]
  (.call 18 [(true, [(.v 15), (.v 16)]), (true, [(.v 33), (.v 34)])] [(false, 1)]
  (.lt (.un .not (.v 51)) (.ite (.v 52)
  (.ret [(false, [(.c (.b false))])])
  (.lt (.un .not (.ite (.eqt false (.v 17) (.v 35)) (.ite (.eqt false (.v 18) (.v 36)) (.ite (.eqt true (.v 19) (.v 37)) (.ite (.eqt true (.v 20) (.v 38)) (.ite (.eqt true (.v 21) (.v 39)) (.ite (.eqt true (.v 22) (.v 40)) (.ite (.eqt true (.v 23) (.v 41)) (.ite (.eqt true (.v 24) (.v 42)) (.ite (.eqt true (.v 25) (.v 43)) (.ite (.eqt true (.v 26) (.v 44)) (.ite (.eqt false (.v 27) (.v 45)) (.ite (.eqt false (.v 28) (.v 46)) (.ite (.eqt false (.v 29) (.v 47)) (.c (.b true)) (.c (.b false))) (.c (.b false))) (.c (.b false))) (.c (.b false))) (.c (.b false))) (.c (.b false))) (.c (.b false))) (.c (.b false))) (.c (.b false))) (.c (.b false))) (.c (.b false))) (.c (.b false))) (.c (.b false)))) (.ite (.v 53)
  (.ret [(false, [(.c (.b false))])])
  (.lt (.un .not (.ite (.eqt true (.v 30) (.v 48)) (.ite (.eqt false (.v 31) (.v 49)) (.ite (.eqt false (.v 32) (.v 50)) (.c (.b true)) (.c (.b false))) (.c (.b false))) (.c (.b false)))) (.ite (.v 54)
  (.ret [(false, [(.c (.b false))])])
  (.call 12 [(true, [(.v 0), (.v 1)]), (false, [(.v 2)]), (false, [(.v 3)]), (false, [(.v 4)])] [(true, 13), (true, 3)]
  (.ite (.v 68)
  (.ret [(false, [(.c (.b true))])])
  (.call 19 [(true, [(.v 0), (.v 1)]), (true, (vr 55 13)), (false, [(.v 8)])] [(true, 2), (true, 13)]
  (.call 20 [(true, [(.v 0), (.v 1)]), (true, (vr 55 13)), (false, [(.v 8)])] [(true, 2), (true, 13)]
  (.call 18 [(true, [(.v 71), (.v 72)]), (true, [(.v 86), (.v 87)])] [(false, 1)]
  (.ite (.v 101)
  (.lt (.ite (.eqt false (.v 73) (.v 88)) (.ite (.eqt false (.v 74) (.v 89)) (.ite (.eqt true (.v 75) (.v 90)) (.ite (.eqt true (.v 76) (.v 91)) (.ite (.eqt true (.v 77) (.v 92)) (.ite (.eqt true (.v 78) (.v 93)) (.ite (.eqt true (.v 79) (.v 94)) (.ite (.eqt true (.v 80) (.v 95)) (.ite (.eqt true (.v 81) (.v 96)) (.ite (.eqt true (.v 82) (.v 97)) (.ite (.eqt false (.v 83) (.v 98)) (.ite (.eqt false (.v 84) (.v 99)) (.ite (.eqt false (.v 85) (.v 100)) (.c (.b true)) (.c (.b false))) (.c (.b false))) (.c (.b false))) (.c (.b false))) (.c (.b false))) (.c (.b false))) (.c (.b false))) (.c (.b false))) (.c (.b false))) (.c (.b false))) (.c (.b false))) (.c (.b false))) (.c (.b false))) (.ret [(false, [(.v 102)])]))
  (.ret [(false, [(.c (.b false))])])))))))))))))))))))))))))
theorem atlaslaw10_WalkWalks_c : compile envIrWl 3000 4 = .ok atlaslaw10_WalkWalks_ir := by kernel_rfl
theorem atlaslaw10_WalkWalks_p : paramShape Tryd.prog 4 = some [(true, 2), (false, 1), (false, 1), (true, 4), (false, 1)] := by kernel_rfl
theorem atlaslaw10_WalkWalks_k : Known gAll 4 (.ir [(true, 2), (false, 1), (false, 1), (true, 4), (false, 1)] atlaslaw10_WalkWalks_ir) := known_ir (E := envIrWl) (n := 3000) rfl rfl atlaslaw10_WalkWalks_c atlaslaw10_WalkWalks_p
/-- atlas/atlaslaw10.WalkTells -/
def atlaslaw10_WalkTells_ir : IR :=
  (.call 9 [] [(false, 1)]
  (.lt (.un .not (.v 9)) (.ite (.v 10)
  (.call 9 [] [(false, 1)]
  (.ret [(false, [(.v 11)])]))
  (.call 10 [(true, [(.v 0), (.v 1)]), (false, [(.v 2)])] [(false, 1)]
  (.lt (.un .not (.v 11)) (.ite (.v 12)
  (.call 9 [] [(false, 1)]
  (.ret [(false, [(.v 13)])]))
  (.call 15 [(true, (vr 4 4))] [(false, 1)]
  (.lt (.un .not (.v 13)) (.ite (.v 14)
  (.call 9 [] [(false, 1)]
  (.ret [(false, [(.v 15)])]))
  (.call 16 [(true, [(.v 0), (.v 1)]), (false, [(.v 2)]), (false, [(.v 3)]), (true, (vr 4 4))] [(true, 2), (true, 13), (true, 3)]
  (.ite (.v 30)
  (.call 18 [(true, [(.v 15), (.v 16)]), (true, [(.v 0), (.v 1)])] [(false, 1)]
  (.ite (.v 33)
  (.lt (.ite (.eqt false (.v 17) (.c (.i .i64 0))) (.ite (.eqt false (.v 18) (.c (.i .u64 0))) (.ite (.eqt true (.v 19) (.c (.b false))) (.ite (.eqt true (.v 20) (.c (.b false))) (.ite (.eqt true (.v 21) (.c (.b false))) (.ite (.eqt true (.v 22) (.c (.b false))) (.ite (.eqt true (.v 23) (.c (.b false))) (.ite (.eqt true (.v 24) (.c (.b false))) (.ite (.eqt true (.v 25) (.c (.b false))) (.ite (.eqt true (.v 26) (.c (.b false))) (.ite (.eqt false (.v 27) (.c (.i .u64 0))) (.ite (.eqt false (.v 28) (.c (.i .u64 0))) (.ite (.eqt false (.v 29) (.c (.i .u64 0))) (.c (.b true)) (.c (.b false))) (.c (.b false))) (.c (.b false))) (.c (.b false))) (.c (.b false))) (.c (.b false))) (.c (.b false))) (.c (.b false))) (.c (.b false))) (.c (.b false))) (.c (.b false))) (.c (.b false))) (.c (.b false))) (.ite (.v 34)
  (.lt (.bin .eql (.v 32) (.v 3)) (.ret [(false, [(.v 35)])]))
  (.ret [(false, [(.c (.b false))])])))
  (.ret [(false, [(.c (.b false))])])))
  (.call 21 [(true, [(.v 15), (.v 16)])] [(false, 1)]
  (.lt (.un .not (.v 33)) (.ite (.v 34)
  (.ret [(false, [(.c (.b false))])])
  (.lt (.bin .quo (.v 8) (.c (.i .u64 8))) (.lt (.bin .quo (.v 18) (.c (.i .u64 8))) (.lt (.bin .neq (.v 35) (.v 36)) (.ite (.v 37)
  (.call 22 [(true, [(.v 15), (.v 16)]), (false, [(.v 8)])] [(false, 1)]
  (.call 22 [(true, [(.v 0), (.v 1)]), (false, [(.v 8)])] [(false, 1)]
  (.lt (.bin .neq (.v 38) (.v 39)) (.ite (.v 40)
  (.ret [(false, [(.c (.b false))])])
  (.call 22 [(true, [(.v 0), (.v 1)]), (false, [(.v 18)])] [(false, 1)]
  (.call 22 [(true, [(.v 15), (.v 16)]), (false, [(.v 18)])] [(false, 1)]
  (.lt (.bin .or (.v 41) (.c (.i .u64 192))) (.lt (.bin .or (.v 42) (.c (.i .u64 192))) (.lt (.bin .neq (.v 43) (.v 44)) (.ite (.v 45)
  (.ret [(false, [(.c (.b false))])])
  (.lt (.bin .and (.v 42) (.v 41)) (.lt (.bin .neq (.v 46) (.v 41)) (.ite (.v 47)
  (.ret [(false, [(.c (.b false))])])
  (.lt (.bin .and (.v 42) (.c (.i .u64 64))) (.lt (.bin .eql (.v 48) (.c (.i .u64 0))) (.ite (.v 49)
  (.ret [(false, [(.c (.b false))])])
  (.lt (.bin .eql (.v 4) (.c (.i .i64 2))) (.ite (.v 50)
  (.lt (.bin .and (.v 42) (.c (.i .u64 128))) (.lt (.bin .eql (.v 51) (.c (.i .u64 0))) (.ite (.v 52)
  (.ret [(false, [(.c (.b false))])])
  (.lt (.bin .neq (.v 4) (.c (.i .i64 2))) (.ite (.v 53)
  (.lt (.bin .and (.v 42) (.c (.i .u64 128))) (.lt (.bin .and (.v 41) (.c (.i .u64 128))) (.lt (.bin .neq (.v 54) (.v 55)) (.ite (.v 56)
  (.ret [(false, [(.c (.b false))])])
  (.call 24 [(true, (vr 19 11))] [(true, 4)]
  (.call 23 [(true, (vr 57 4)), (true, (vr 4 4))] [(false, 1)]
  (.lt (.un .not (.v 61)) (.ite (.v 62)
  (.ret [(false, [(.c (.b false))])])
  (.lt (.bin .lss (.v 17) (.c (.i .i64 0))) (.ite (.v 63)
  (.ret [(false, [(.c (.b false))])])
  (.lt (.bin .gtr (.v 17) (.c (.i .i64 2))) (.ite (.v 64)
  (.ret [(false, [(.c (.b false))])])
  (.lt (.bin .rem (.v 18) (.c (.i .u64 8))) (.lt (.bin .neq (.v 65) (.c (.i .u64 0))) (.ite (.v 66)
  (.ret [(false, [(.c (.b false))])])
  (.call 25 [(false, [(.v 3)])] [(false, 1)]
  (.lt (.un .not (.v 67)) (.ite (.v 68)
  (.ret [(false, [(.c (.b false))])])
  (.call 16 [(true, [(.v 15), (.v 16)]), (false, [(.v 2)]), (false, [(.v 3)]), (true, (vr 4 4))] [(true, 2), (true, 13), (true, 3)]
  (.lt (.un .not (.v 84)) (.ite (.v 87)
  (.call 18 [(true, [(.v 15), (.v 16)]), (true, [(.v 69), (.v 70)])] [(false, 1)]
  (.ite (.v 88)
  (.lt (.ite (.eqt false (.v 71) (.v 17)) (.ite (.eqt false (.v 72) (.v 18)) (.ite (.eqt true (.v 73) (.v 19)) (.ite (.eqt true (.v 74) (.v 20)) (.ite (.eqt true (.v 75) (.v 21)) (.ite (.eqt true (.v 76) (.v 22)) (.ite (.eqt true (.v 77) (.v 23)) (.ite (.eqt true (.v 78) (.v 24)) (.ite (.eqt true (.v 79) (.v 25)) (.ite (.eqt true (.v 80) (.v 26)) (.ite (.eqt false (.v 81) (.v 27)) (.ite (.eqt false (.v 82) (.v 28)) (.ite (.eqt false (.v 83) (.v 29)) (.c (.b true)) (.c (.b false))) (.c (.b false))) (.c (.b false))) (.c (.b false))) (.c (.b false))) (.c (.b false))) (.c (.b false))) (.c (.b false))) (.c (.b false))) (.c (.b false))) (.c (.b false))) (.c (.b false))) (.c (.b false))) (.ret [(false, [(.v 89)])]))
  (.ret [(false, [(.c (.b false))])])))
  (.ret [(false, [(.c (.b false))])]))))))))))))))))))))))
  (.call 24 [(true, (vr 19 11))] [(true, 4)]
  (.call 23 [(true, (vr 54 4)), (true, (vr 4 4))] [(false, 1)]
  (.lt (.un .not (.v 58)) (.ite (.v 59)
  (.ret [(false, [(.c (.b false))])])
  (.lt (.bin .lss (.v 17) (.c (.i .i64 0))) (.ite (.v 60)
  (.ret [(false, [(.c (.b false))])])
  (.lt (.bin .gtr (.v 17) (.c (.i .i64 2))) (.ite (.v 61)
  (.ret [(false, [(.c (.b false))])])
  (.lt (.bin .rem (.v 18) (.c (.i .u64 8))) (.lt (.bin .neq (.v 62) (.c (.i .u64 0))) (.ite (.v 63)
  (.ret [(false, [(.c (.b false))])])
  (.call 25 [(false, [(.v 3)])] [(false, 1)]
  (.lt (.un .not (.v 64)) (.ite (.v 65)
  (.ret [(false, [(.c (.b false))])])
  (.call 16 [(true, [(.v 15), (.v 16)]), (false, [(.v 2)]), (false, [(.v 3)]), (true, (vr 4 4))] [(true, 2), (true, 13), (true, 3)]
  (.lt (.un .not (.v 81)) (.ite (.v 84)
  (.call 18 [(true, [(.v 15), (.v 16)]), (true, [(.v 66), (.v 67)])] [(false, 1)]
  (.ite (.v 85)
  (.lt (.ite (.eqt false (.v 68) (.v 17)) (.ite (.eqt false (.v 69) (.v 18)) (.ite (.eqt true (.v 70) (.v 19)) (.ite (.eqt true (.v 71) (.v 20)) (.ite (.eqt true (.v 72) (.v 21)) (.ite (.eqt true (.v 73) (.v 22)) (.ite (.eqt true (.v 74) (.v 23)) (.ite (.eqt true (.v 75) (.v 24)) (.ite (.eqt true (.v 76) (.v 25)) (.ite (.eqt true (.v 77) (.v 26)) (.ite (.eqt false (.v 78) (.v 27)) (.ite (.eqt false (.v 79) (.v 28)) (.ite (.eqt false (.v 80) (.v 29)) (.c (.b true)) (.c (.b false))) (.c (.b false))) (.c (.b false))) (.c (.b false))) (.c (.b false))) (.c (.b false))) (.c (.b false))) (.c (.b false))) (.c (.b false))) (.c (.b false))) (.c (.b false))) (.c (.b false))) (.c (.b false))) (.ret [(false, [(.v 86)])]))
  (.ret [(false, [(.c (.b false))])])))
  (.ret [(false, [(.c (.b false))])])))))))))))))))))))))))
  (.lt (.bin .neq (.v 4) (.c (.i .i64 2))) (.ite (.v 51)
  (.lt (.bin .and (.v 42) (.c (.i .u64 128))) (.lt (.bin .and (.v 41) (.c (.i .u64 128))) (.lt (.bin .neq (.v 52) (.v 53)) (.ite (.v 54)
  (.ret [(false, [(.c (.b false))])])
  (.call 24 [(true, (vr 19 11))] [(true, 4)]
  (.call 23 [(true, (vr 55 4)), (true, (vr 4 4))] [(false, 1)]
  (.lt (.un .not (.v 59)) (.ite (.v 60)
  (.ret [(false, [(.c (.b false))])])
  (.lt (.bin .lss (.v 17) (.c (.i .i64 0))) (.ite (.v 61)
  (.ret [(false, [(.c (.b false))])])
  (.lt (.bin .gtr (.v 17) (.c (.i .i64 2))) (.ite (.v 62)
  (.ret [(false, [(.c (.b false))])])
  (.lt (.bin .rem (.v 18) (.c (.i .u64 8))) (.lt (.bin .neq (.v 63) (.c (.i .u64 0))) (.ite (.v 64)
  (.ret [(false, [(.c (.b false))])])
  (.call 25 [(false, [(.v 3)])] [(false, 1)]
  (.lt (.un .not (.v 65)) (.ite (.v 66)
  (.ret [(false, [(.c (.b false))])])
  (.call 16 [(true, [(.v 15), (.v 16)]), (false, [(.v 2)]), (false, [(.v 3)]), (true, (vr 4 4))] [(true, 2), (true, 13), (true, 3)]
  (.lt (.un .not (.v 82)) (.ite (.v 85)
  (.call 18 [(true, [(.v 15), (.v 16)]), (true, [(.v 67), (.v 68)])] [(false, 1)]
  (.ite (.v 86)
  (.lt (.ite (.eqt false (.v 69) (.v 17)) (.ite (.eqt false (.v 70) (.v 18)) (.ite (.eqt true (.v 71) (.v 19)) (.ite (.eqt true (.v 72) (.v 20)) (.ite (.eqt true (.v 73) (.v 21)) (.ite (.eqt true (.v 74) (.v 22)) (.ite (.eqt true (.v 75) (.v 23)) (.ite (.eqt true (.v 76) (.v 24)) (.ite (.eqt true (.v 77) (.v 25)) (.ite (.eqt true (.v 78) (.v 26)) (.ite (.eqt false (.v 79) (.v 27)) (.ite (.eqt false (.v 80) (.v 28)) (.ite (.eqt false (.v 81) (.v 29)) (.c (.b true)) (.c (.b false))) (.c (.b false))) (.c (.b false))) (.c (.b false))) (.c (.b false))) (.c (.b false))) (.c (.b false))) (.c (.b false))) (.c (.b false))) (.c (.b false))) (.c (.b false))) (.c (.b false))) (.c (.b false))) (.ret [(false, [(.v 87)])]))
  (.ret [(false, [(.c (.b false))])])))
  (.ret [(false, [(.c (.b false))])]))))))))))))))))))))))
  (.call 24 [(true, (vr 19 11))] [(true, 4)]
  (.call 23 [(true, (vr 52 4)), (true, (vr 4 4))] [(false, 1)]
  (.lt (.un .not (.v 56)) (.ite (.v 57)
  (.ret [(false, [(.c (.b false))])])
  (.lt (.bin .lss (.v 17) (.c (.i .i64 0))) (.ite (.v 58)
  (.ret [(false, [(.c (.b false))])])
  (.lt (.bin .gtr (.v 17) (.c (.i .i64 2))) (.ite (.v 59)
  (.ret [(false, [(.c (.b false))])])
  (.lt (.bin .rem (.v 18) (.c (.i .u64 8))) (.lt (.bin .neq (.v 60) (.c (.i .u64 0))) (.ite (.v 61)
  (.ret [(false, [(.c (.b false))])])
  (.call 25 [(false, [(.v 3)])] [(false, 1)]
  (.lt (.un .not (.v 62)) (.ite (.v 63)
  (.ret [(false, [(.c (.b false))])])
  (.call 16 [(true, [(.v 15), (.v 16)]), (false, [(.v 2)]), (false, [(.v 3)]), (true, (vr 4 4))] [(true, 2), (true, 13), (true, 3)]
  (.lt (.un .not (.v 79)) (.ite (.v 82)
  (.call 18 [(true, [(.v 15), (.v 16)]), (true, [(.v 64), (.v 65)])] [(false, 1)]
  (.ite (.v 83)
  (.lt (.ite (.eqt false (.v 66) (.v 17)) (.ite (.eqt false (.v 67) (.v 18)) (.ite (.eqt true (.v 68) (.v 19)) (.ite (.eqt true (.v 69) (.v 20)) (.ite (.eqt true (.v 70) (.v 21)) (.ite (.eqt true (.v 71) (.v 22)) (.ite (.eqt true (.v 72) (.v 23)) (.ite (.eqt true (.v 73) (.v 24)) (.ite (.eqt true (.v 74) (.v 25)) (.ite (.eqt true (.v 75) (.v 26)) (.ite (.eqt false (.v 76) (.v 27)) (.ite (.eqt false (.v 77) (.v 28)) (.ite (.eqt false (.v 78) (.v 29)) (.c (.b true)) (.c (.b false))) (.c (.b false))) (.c (.b false))) (.c (.b false))) (.c (.b false))) (.c (.b false))) (.c (.b false))) (.c (.b false))) (.c (.b false))) (.c (.b false))) (.c (.b false))) (.c (.b false))) (.c (.b false))) (.ret [(false, [(.v 84)])]))
  (.ret [(false, [(.c (.b false))])])))
  (.ret [(false, [(.c (.b false))])]))))))))))))))))))))))))))))))))))))))
  (.call 22 [(true, [(.v 0), (.v 1)]), (false, [(.v 18)])] [(false, 1)]
  (.call 22 [(true, [(.v 15), (.v 16)]), (false, [(.v 18)])] [(false, 1)]
  (.lt (.bin .or (.v 38) (.c (.i .u64 192))) (.lt (.bin .or (.v 39) (.c (.i .u64 192))) (.lt (.bin .neq (.v 40) (.v 41)) (.ite (.v 42)
  (.ret [(false, [(.c (.b false))])])
  (.lt (.bin .and (.v 39) (.v 38)) (.lt (.bin .neq (.v 43) (.v 38)) (.ite (.v 44)
  (.ret [(false, [(.c (.b false))])])
  (.lt (.bin .and (.v 39) (.c (.i .u64 64))) (.lt (.bin .eql (.v 45) (.c (.i .u64 0))) (.ite (.v 46)
  (.ret [(false, [(.c (.b false))])])
  (.lt (.bin .eql (.v 4) (.c (.i .i64 2))) (.ite (.v 47)
  (.lt (.bin .and (.v 39) (.c (.i .u64 128))) (.lt (.bin .eql (.v 48) (.c (.i .u64 0))) (.ite (.v 49)
  (.ret [(false, [(.c (.b false))])])
  (.lt (.bin .neq (.v 4) (.c (.i .i64 2))) (.ite (.v 50)
  (.lt (.bin .and (.v 39) (.c (.i .u64 128))) (.lt (.bin .and (.v 38) (.c (.i .u64 128))) (.lt (.bin .neq (.v 51) (.v 52)) (.ite (.v 53)
  (.ret [(false, [(.c (.b false))])])
  (.call 24 [(true, (vr 19 11))] [(true, 4)]
  (.call 23 [(true, (vr 54 4)), (true, (vr 4 4))] [(false, 1)]
  (.lt (.un .not (.v 58)) (.ite (.v 59)
  (.ret [(false, [(.c (.b false))])])
  (.lt (.bin .lss (.v 17) (.c (.i .i64 0))) (.ite (.v 60)
  (.ret [(false, [(.c (.b false))])])
  (.lt (.bin .gtr (.v 17) (.c (.i .i64 2))) (.ite (.v 61)
  (.ret [(false, [(.c (.b false))])])
  (.lt (.bin .rem (.v 18) (.c (.i .u64 8))) (.lt (.bin .neq (.v 62) (.c (.i .u64 0))) (.ite (.v 63)
  (.ret [(false, [(.c (.b false))])])
  (.call 25 [(false, [(.v 3)])] [(false, 1)]
  (.lt (.un .not (.v 64)) (.ite (.v 65)
  (.ret [(false, [(.c (.b false))])])
  (.call 16 [(true, [(.v 15), (.v 16)]), (false, [(.v 2)]), (false, [(.v 3)]), (true, (vr 4 4))] [(true, 2), (true, 13), (true, 3)]
  (.lt (.un .not (.v 81)) (.ite (.v 84)
  (.call 18 [(true, [(.v 15), (.v 16)]), (true, [(.v 66), (.v 67)])] [(false, 1)]
  (.ite (.v 85)
  (.lt (.ite (.eqt false (.v 68) (.v 17)) (.ite (.eqt false (.v 69) (.v 18)) (.ite (.eqt true (.v 70) (.v 19)) (.ite (.eqt true (.v 71) (.v 20)) (.ite (.eqt true (.v 72) (.v 21)) (.ite (.eqt true (.v 73) (.v 22)) (.ite (.eqt true (.v 74) (.v 23)) (.ite (.eqt true (.v 75) (.v 24)) (.ite (.eqt true (.v 76) (.v 25)) (.ite (.eqt true (.v 77) (.v 26)) (.ite (.eqt false (.v 78) (.v 27)) (.ite (.eqt false (.v 79) (.v 28)) (.ite (.eqt false (.v 80) (.v 29)) (.c (.b true)) (.c (.b false))) (.c (.b false))) (.c (.b false))) (.c (.b false))) (.c (.b false))) (.c (.b false))) (.c (.b false))) (.c (.b false))) (.c (.b false))) (.c (.b false))) (.c (.b false))) (.c (.b false))) (.c (.b false))) (.ret [(false, [(.v 86)])]))
  (.ret [(false, [(.c (.b false))])])))
  (.ret [(false, [(.c (.b false))])]))))))))))))))))))))))
  (.call 24 [(true, (vr 19 11))] [(true, 4)]
  (.call 23 [(true, (vr 51 4)), (true, (vr 4 4))] [(false, 1)]
  (.lt (.un .not (.v 55)) (.ite (.v 56)
  (.ret [(false, [(.c (.b false))])])
  (.lt (.bin .lss (.v 17) (.c (.i .i64 0))) (.ite (.v 57)
  (.ret [(false, [(.c (.b false))])])
  (.lt (.bin .gtr (.v 17) (.c (.i .i64 2))) (.ite (.v 58)
  (.ret [(false, [(.c (.b false))])])
  (.lt (.bin .rem (.v 18) (.c (.i .u64 8))) (.lt (.bin .neq (.v 59) (.c (.i .u64 0))) (.ite (.v 60)
  (.ret [(false, [(.c (.b false))])])
  (.call 25 [(false, [(.v 3)])] [(false, 1)]
  (.lt (.un .not (.v 61)) (.ite (.v 62)
  (.ret [(false, [(.c (.b false))])])
  (.call 16 [(true, [(.v 15), (.v 16)]), (false, [(.v 2)]), (false, [(.v 3)]), (true, (vr 4 4))] [(true, 2), (true, 13), (true, 3)]
  (.lt (.un .not (.v 78)) (.ite (.v 81)
  (.call 18 [(true, [(.v 15), (.v 16)]), (true, [(.v 63), (.v 64)])] [(false, 1)]
  (.ite (.v 82)
  (.lt (.ite (.eqt false (.v 65) (.v 17)) (.ite (.eqt false (.v 66) (.v 18)) (.ite (.eqt true (.v 67) (.v 19)) (.ite (.eqt true (.v 68) (.v 20)) (.ite (.eqt true (.v 69) (.v 21)) (.ite (.eqt true (.v 70) (.v 22)) (.ite (.eqt true (.v 71) (.v 23)) (.ite (.eqt true (.v 72) (.v 24)) (.ite (.eqt true (.v 73) (.v 25)) (.ite (.eqt true (.v 74) (.v 26)) (.ite (.eqt false (.v 75) (.v 27)) (.ite (.eqt false (.v 76) (.v 28)) (.ite (.eqt false (.v 77) (.v 29)) (.c (.b true)) (.c (.b false))) (.c (.b false))) (.c (.b false))) (.c (.b false))) (.c (.b false))) (.c (.b false))) (.c (.b false))) (.c (.b false))) (.c (.b false))) (.c (.b false))) (.c (.b false))) (.c (.b false))) (.c (.b false))) (.ret [(false, [(.v 83)])]))
  (.ret [(false, [(.c (.b false))])])))
  (.ret [(false, [(.c (.b false))])])))))))))))))))))))))))
  (.lt (.bin .neq (.v 4) (.c (.i .i64 2))) (.ite (.v 48)
  (.lt (.bin .and (.v 39) (.c (.i .u64 128))) (.lt (.bin .and (.v 38) (.c (.i .u64 128))) (.lt (.bin .neq (.v 49) (.v 50)) (.ite (.v 51)
  (.ret [(false, [(.c (.b false))])])
  (.call 24 [(true, (vr 19 11))] [(true, 4)]
  (.call 23 [(true, (vr 52 4)), (true, (vr 4 4))] [(false, 1)]
  (.lt (.un .not (.v 56)) (.ite (.v 57)
  (.ret [(false, [(.c (.b false))])])
  (.lt (.bin .lss (.v 17) (.c (.i .i64 0))) (.ite (.v 58)
  (.ret [(false, [(.c (.b false))])])
  (.lt (.bin .gtr (.v 17) (.c (.i .i64 2))) (.ite (.v 59)
  (.ret [(false, [(.c (.b false))])])
  (.lt (.bin .rem (.v 18) (.c (.i .u64 8))) (.lt (.bin .neq (.v 60) (.c (.i .u64 0))) (.ite (.v 61)
  (.ret [(false, [(.c (.b false))])])
  (.call 25 [(false, [(.v 3)])] [(false, 1)]
  (.lt (.un .not (.v 62)) (.ite (.v 63)
  (.ret [(false, [(.c (.b false))])])
  (.call 16 [(true, [(.v 15), (.v 16)]), (false, [(.v 2)]), (false, [(.v 3)]), (true, (vr 4 4))] [(true, 2), (true, 13), (true, 3)]
  (.lt (.un .not (.v 79)) (.ite (.v 82)
  (.call 18 [(true, [(.v 15), (.v 16)]), (true, [(.v 64), (.v 65)])] [(false, 1)]
  (.ite (.v 83)
  (.lt (.ite (.eqt false (.v 66) (.v 17)) (.ite (.eqt false (.v 67) (.v 18)) (.ite (.eqt true (.v 68) (.v 19)) (.ite (.eqt true (.v 69) (.v 20)) (.ite (.eqt true (.v 70) (.v 21)) (.ite (.eqt true (.v 71) (.v 22)) (.ite (.eqt true (.v 72) (.v 23)) (.ite (.eqt true (.v 73) (.v 24)) (.ite (.eqt true (.v 74) (.v 25)) (.ite (.eqt true (.v 75) (.v 26)) (.ite (.eqt false (.v 76) (.v 27)) (.ite (.eqt false (.v 77) (.v 28)) (.ite (.eqt false (.v 78) (.v 29)) (.c (.b true)) (.c (.b false))) (.c (.b false))) (.c (.b false))) (.c (.b false))) (.c (.b false))) (.c (.b false))) (.c (.b false))) (.c (.b false))) (.c (.b false))) (.c (.b false))) (.c (.b false))) (.c (.b false))) (.c (.b false))) (.ret [(false, [(.v 84)])]))
  (.ret [(false, [(.c (.b false))])])))
  (.ret [(false, [(.c (.b false))])]))))))))))))))))))))))
  (.call 24 [(true, (vr 19 11))] [(true, 4)]
  (.call 23 [(true, (vr 49 4)), (true, (vr 4 4))] [(false, 1)]
  (.lt (.un .not (.v 53)) (.ite (.v 54)
  (.ret [(false, [(.c (.b false))])])
  (.lt (.bin .lss (.v 17) (.c (.i .i64 0))) (.ite (.v 55)
  (.ret [(false, [(.c (.b false))])])
  (.lt (.bin .gtr (.v 17) (.c (.i .i64 2))) (.ite (.v 56)
  (.ret [(false, [(.c (.b false))])])
  (.lt (.bin .rem (.v 18) (.c (.i .u64 8))) (.lt (.bin .neq (.v 57) (.c (.i .u64 0))) (.ite (.v 58)
  (.ret [(false, [(.c (.b false))])])
  (.call 25 [(false, [(.v 3)])] [(false, 1)]
  (.lt (.un .not (.v 59)) (.ite (.v 60)
  (.ret [(false, [(.c (.b false))])])
  (.call 16 [(true, [(.v 15), (.v 16)]), (false, [(.v 2)]), (false, [(.v 3)]), (true, (vr 4 4))] [(true, 2), (true, 13), (true, 3)]
  (.lt (.un .not (.v 76)) (.ite (.v 79)
  (.call 18 [(true, [(.v 15), (.v 16)]), (true, [(.v 61), (.v 62)])] [(false, 1)]
  (.ite (.v 80)
  (.lt (.ite (.eqt false (.v 63) (.v 17)) (.ite (.eqt false (.v 64) (.v 18)) (.ite (.eqt true (.v 65) (.v 19)) (.ite (.eqt true (.v 66) (.v 20)) (.ite (.eqt true (.v 67) (.v 21)) (.ite (.eqt true (.v 68) (.v 22)) (.ite (.eqt true (.v 69) (.v 23)) (.ite (.eqt true (.v 70) (.v 24)) (.ite (.eqt true (.v 71) (.v 25)) (.ite (.eqt true (.v 72) (.v 26)) (.ite (.eqt false (.v 73) (.v 27)) (.ite (.eqt false (.v 74) (.v 28)) (.ite (.eqt false (.v 75) (.v 29)) (.c (.b true)) (.c (.b false))) (.c (.b false))) (.c (.b false))) (.c (.b false))) (.c (.b false))) (.c (.b false))) (.c (.b false))) (.c (.b false))) (.c (.b false))) (.c (.b false))) (.c (.b false))) (.c (.b false))) (.c (.b false))) (.ret [(false, [(.v 81)])]))
  (.ret [(false, [(.c (.b false))])])))
  (.ret [(false, [(.c (.b false))])]))))))))))))))))))))))))))))))))))))))))))))))))))))
theorem atlaslaw10_WalkTells_c : compile envIrWl 3000 5 = .ok atlaslaw10_WalkTells_ir := by kernel_rfl
theorem atlaslaw10_WalkTells_p : paramShape Tryd.prog 5 = some [(true, 2), (false, 1), (false, 1), (true, 4), (false, 1)] := by kernel_rfl
theorem atlaslaw10_WalkTells_k : Known gAll 5 (.ir [(true, 2), (false, 1), (false, 1), (true, 4), (false, 1)] atlaslaw10_WalkTells_ir) := known_ir (E := envIrWl) (n := 3000) rfl rfl atlaslaw10_WalkTells_c atlaslaw10_WalkTells_p
/-- atlas/atlaslaw10.WalkNear -/
def atlaslaw10_WalkNear_ir : IR :=
  (.call 9 [] [(false, 1)]
  (.lt (.un .not (.v 7)) (.ite (.v 8)
  (.call 9 [] [(false, 1)]
  (.ret [(false, [(.v 9)])]))
  (.call 10 [(true, [(.v 0), (.v 1)]), (false, [(.v 2)])] [(false, 1)]
  (.lt (.un .not (.v 9)) (.ite (.v 10)
  (.call 9 [] [(false, 1)]
  (.ret [(false, [(.v 11)])]))
  (.lt (.bin .rem (.v 5) (.c (.i .u8 3))) (.lt (.cv .i64 (.v 11)) (.call 11 [(true, [(.v 0), (.v 1)]), (false, [(.v 2)]), (false, [(.v 3)]), (false, [(.v 12)])] [(true, 13), (true, 3)]
  (.lt (.bin .rem (.v 6) (.c (.i .u8 3))) (.lt (.cv .i64 (.v 29)) (.call 11 [(true, [(.v 0), (.v 1)]), (false, [(.v 2)]), (false, [(.v 3)]), (false, [(.v 30)])] [(true, 13), (true, 3)]
  (.lt (.un .not (.eqt true (.v 26) (.v 44))) (.ite (.v 47)
  (.ret [(false, [(.c (.b false))])])
  (.lt (.un .not (.ite (.eqt false (.v 13) (.v 31)) (.ite (.eqt false (.v 14) (.v 32)) (.ite (.eqt true (.v 15) (.v 33)) (.ite (.eqt true (.v 16) (.v 34)) (.ite (.eqt true (.v 17) (.v 35)) (.ite (.eqt true (.v 18) (.v 36)) (.ite (.eqt true (.v 19) (.v 37)) (.ite (.eqt true (.v 20) (.v 38)) (.ite (.eqt true (.v 21) (.v 39)) (.ite (.eqt true (.v 22) (.v 40)) (.ite (.eqt false (.v 23) (.v 41)) (.ite (.eqt false (.v 24) (.v 42)) (.ite (.eqt false (.v 25) (.v 43)) (.c (.b true)) (.c (.b false))) (.c (.b false))) (.c (.b false))) (.c (.b false))) (.c (.b false))) (.c (.b false))) (.c (.b false))) (.c (.b false))) (.c (.b false))) (.c (.b false))) (.c (.b false))) (.c (.b false))) (.c (.b false)))) (.ite (.v 48)
  (.ret [(false, [(.c (.b false))])])
  (.ite (.v 26)
  (.lt (.bin .geq (.v 27) (.c (.i .i64 12))) (.lt (.bin .geq (.v 45) (.c (.i .i64 12))) (.lt (.eqt true (.v 49) (.v 50)) (.ite (.v 51)
  (.lt (.bin .eql (.v 28) (.v 3)) (.ret [(false, [(.v 52)])]))
  (.ret [(false, [(.c (.b false))])])))))
  (.call 26 [(false, [(.v 3)]), (false, [(.v 13)])] [(false, 1)]
  (.call 27 [(false, [(.v 13)])] [(false, 1)]
  (.lt (.bin .rem (.v 4) (.v 50)) (.lt (.bin .add (.v 49) (.v 51)) (.lt (.bin .rem (.v 5) (.c (.i .u8 3))) (.lt (.cv .i64 (.v 53)) (.call 11 [(true, [(.v 0), (.v 1)]), (false, [(.v 2)]), (false, [(.v 52)]), (false, [(.v 54)])] [(true, 13), (true, 3)]
  (.lt (.un .not (.v 68)) (.ite (.v 71)
  (.lt (.ite (.eqt false (.v 55) (.v 13)) (.ite (.eqt false (.v 56) (.v 14)) (.ite (.eqt true (.v 57) (.v 15)) (.ite (.eqt true (.v 58) (.v 16)) (.ite (.eqt true (.v 59) (.v 17)) (.ite (.eqt true (.v 60) (.v 18)) (.ite (.eqt true (.v 61) (.v 19)) (.ite (.eqt true (.v 62) (.v 20)) (.ite (.eqt true (.v 63) (.v 21)) (.ite (.eqt true (.v 64) (.v 22)) (.ite (.eqt false (.v 65) (.v 23)) (.ite (.eqt false (.v 66) (.v 24)) (.ite (.eqt false (.v 67) (.v 25)) (.c (.b true)) (.c (.b false))) (.c (.b false))) (.c (.b false))) (.c (.b false))) (.c (.b false))) (.c (.b false))) (.c (.b false))) (.c (.b false))) (.c (.b false))) (.c (.b false))) (.c (.b false))) (.c (.b false))) (.c (.b false))) (.ite (.v 72)
  (.call 13 [(true, (vr 55 13)), (false, [(.v 52)])] [(false, 1)]
  (.call 13 [(true, (vr 13 13)), (false, [(.v 3)])] [(false, 1)]
  (.lt (.bin .sub (.v 73) (.v 74)) (.lt (.bin .sub (.v 52) (.v 3)) (.lt (.bin .eql (.v 75) (.v 76)) (.ret [(false, [(.v 77)])]))))))
  (.ret [(false, [(.c (.b false))])])))
  (.ret [(false, [(.c (.b false))])])))))))))))))))))))))))))))
theorem atlaslaw10_WalkNear_c : compile envIrWl 3000 6 = .ok atlaslaw10_WalkNear_ir := by kernel_rfl
theorem atlaslaw10_WalkNear_p : paramShape Tryd.prog 6 = some [(true, 2), (false, 1), (false, 1), (false, 1), (false, 1), (false, 1)] := by kernel_rfl
theorem atlaslaw10_WalkNear_k : Known gAll 6 (.ir [(true, 2), (false, 1), (false, 1), (false, 1), (false, 1), (false, 1)] atlaslaw10_WalkNear_ir) := known_ir (E := envIrWl) (n := 3000) rfl rfl atlaslaw10_WalkNear_c atlaslaw10_WalkNear_p
/-- atlas/atlaslaw10.WalkWays -/
def atlaslaw10_WalkWays_ir : IR :=
  (.call 9 [] [(false, 1)]
  (.lt (.un .not (.v 12)) (.ite (.v 13)
  (.call 9 [] [(false, 1)]
  (.ret [(false, [(.v 14)])]))
  (.call 10 [(true, [(.v 0), (.v 1)]), (false, [(.v 2)])] [(false, 1)]
  (.lt (.un .not (.v 14)) (.ite (.v 15)
  (.call 9 [] [(false, 1)]
  (.ret [(false, [(.v 16)])]))
  (.call 15 [(true, (vr 4 4))] [(false, 1)]
  (.lt (.un .not (.v 16)) (.ite (.v 17)
  (.call 9 [] [(false, 1)]
  (.ret [(false, [(.v 18)])]))
  (.call 15 [(true, (vr 8 4))] [(false, 1)]
  (.lt (.un .not (.v 18)) (.ite (.v 19)
  (.call 9 [] [(false, 1)]
  (.ret [(false, [(.v 20)])]))
  (.call 16 [(true, [(.v 0), (.v 1)]), (false, [(.v 2)]), (false, [(.v 3)]), (true, (vr 4 4))] [(true, 2), (true, 13), (true, 3)]
  (.call 16 [(true, [(.v 0), (.v 1)]), (false, [(.v 2)]), (false, [(.v 3)]), (true, (vr 8 4))] [(true, 2), (true, 13), (true, 3)]
  (.call 11 [(true, [(.v 0), (.v 1)]), (false, [(.v 2)]), (false, [(.v 3)]), (false, [(.v 4)])] [(true, 13), (true, 3)]
  (.ite (.v 69)
  (.ite (.v 35)
  (.ite (.v 53)
  (.lt (.ite (.eqt true (.v 35) (.v 69)) (.ite (.eqt false (.v 36) (.v 70)) (.ite (.eqt false (.v 37) (.v 71)) (.c (.b true)) (.c (.b false))) (.c (.b false))) (.c (.b false))) (.ret [(false, [(.v 72)])]))
  (.ret [(false, [(.c (.b false))])]))
  (.ret [(false, [(.c (.b false))])]))
  (.call 24 [(true, (vr 58 11))] [(true, 4)]
  (.call 23 [(true, (vr 72 4)), (true, (vr 4 4))] [(false, 1)]
  (.lt (.eqt true (.v 35) (.v 76)) (.ite (.v 77)
  (.ret [(false, [(.c (.b false))])])
  (.call 23 [(true, (vr 72 4)), (true, (vr 8 4))] [(false, 1)]
  (.lt (.eqt true (.v 53) (.v 78)) (.ite (.v 79)
  (.ret [(false, [(.c (.b false))])])
  (.ite (.v 35)
  (.ret [(false, [(.c (.b true))])])
  (.ite (.v 53)
  (.ret [(false, [(.c (.b true))])])
  (.call 22 [(true, [(.v 20), (.v 21)]), (false, [(.v 41)])] [(false, 1)]
  (.call 22 [(true, [(.v 38), (.v 39)]), (false, [(.v 41)])] [(false, 1)]
  (.lt (.ite (.eqt false (.v 22) (.v 40)) (.ite (.eqt false (.v 23) (.v 41)) (.ite (.eqt true (.v 24) (.v 42)) (.ite (.eqt true (.v 25) (.v 43)) (.ite (.eqt true (.v 26) (.v 44)) (.ite (.eqt true (.v 27) (.v 45)) (.ite (.eqt true (.v 28) (.v 46)) (.ite (.eqt true (.v 29) (.v 47)) (.ite (.eqt true (.v 30) (.v 48)) (.ite (.eqt true (.v 49) (.v 49)) (.ite (.eqt false (.v 32) (.v 50)) (.ite (.eqt false (.v 33) (.v 51)) (.ite (.eqt false (.v 34) (.v 52)) (.c (.b true)) (.c (.b false))) (.c (.b false))) (.c (.b false))) (.c (.b false))) (.c (.b false))) (.c (.b false))) (.c (.b false))) (.c (.b false))) (.c (.b false))) (.c (.b false))) (.c (.b false))) (.c (.b false))) (.c (.b false))) (.ite (.v 82)
  (.lt (.bin .or (.v 80) (.c (.i .u64 128))) (.lt (.bin .or (.v 81) (.c (.i .u64 128))) (.lt (.bin .eql (.v 83) (.v 84)) (.ite (.v 85)
  (.lt (.bin .eql (.v 4) (.c (.i .i64 2))) (.lt (.bin .eql (.v 8) (.c (.i .i64 2))) (.lt (.eqt true (.v 86) (.v 87)) (.call 18 [(true, [(.v 20), (.v 21)]), (true, [(.v 38), (.v 39)])] [(false, 1)]
  (.lt (.eqt true (.v 88) (.v 89)) (.ite (.v 90)
  (.ret [(false, [(.c (.b true))])])
  (.lt (.ite (.eqt false (.v 22) (.v 40)) (.ite (.eqt false (.v 23) (.v 41)) (.ite (.eqt true (.v 24) (.v 42)) (.ite (.eqt true (.v 25) (.v 43)) (.ite (.eqt true (.v 26) (.v 44)) (.ite (.eqt true (.v 27) (.v 45)) (.ite (.eqt true (.v 28) (.v 46)) (.ite (.eqt true (.v 29) (.v 47)) (.ite (.eqt true (.v 30) (.v 48)) (.ite (.eqt true (.v 49) (.v 49)) (.ite (.eqt false (.v 32) (.v 50)) (.ite (.eqt false (.v 33) (.v 51)) (.ite (.eqt false (.v 34) (.v 52)) (.c (.b true)) (.c (.b false))) (.c (.b false))) (.c (.b false))) (.c (.b false))) (.c (.b false))) (.c (.b false))) (.c (.b false))) (.c (.b false))) (.c (.b false))) (.c (.b false))) (.c (.b false))) (.c (.b false))) (.c (.b false))) (.ite (.v 91)
  (.lt (.bin .or (.v 80) (.c (.i .u64 128))) (.lt (.bin .or (.v 81) (.c (.i .u64 128))) (.lt (.bin .eql (.v 92) (.v 93)) (.ite (.v 94)
  (.ret [(false, [(.v 65)])])
  (.ret [(false, [(.c (.b false))])])))))
  (.ret [(false, [(.c (.b false))])])))))))))
  (.lt (.ite (.eqt false (.v 22) (.v 40)) (.ite (.eqt false (.v 23) (.v 41)) (.ite (.eqt true (.v 24) (.v 42)) (.ite (.eqt true (.v 25) (.v 43)) (.ite (.eqt true (.v 26) (.v 44)) (.ite (.eqt true (.v 27) (.v 45)) (.ite (.eqt true (.v 28) (.v 46)) (.ite (.eqt true (.v 29) (.v 47)) (.ite (.eqt true (.v 30) (.v 48)) (.ite (.eqt true (.v 49) (.v 49)) (.ite (.eqt false (.v 32) (.v 50)) (.ite (.eqt false (.v 33) (.v 51)) (.ite (.eqt false (.v 34) (.v 52)) (.c (.b true)) (.c (.b false))) (.c (.b false))) (.c (.b false))) (.c (.b false))) (.c (.b false))) (.c (.b false))) (.c (.b false))) (.c (.b false))) (.c (.b false))) (.c (.b false))) (.c (.b false))) (.c (.b false))) (.c (.b false))) (.ite (.v 86)
  (.lt (.bin .or (.v 80) (.c (.i .u64 128))) (.lt (.bin .or (.v 81) (.c (.i .u64 128))) (.lt (.bin .eql (.v 87) (.v 88)) (.ite (.v 89)
  (.ret [(false, [(.v 65)])])
  (.ret [(false, [(.c (.b false))])])))))
  (.ret [(false, [(.c (.b false))])])))))))
  (.lt (.ite (.eqt false (.v 22) (.v 40)) (.ite (.eqt false (.v 23) (.v 41)) (.ite (.eqt true (.v 24) (.v 42)) (.ite (.eqt true (.v 25) (.v 43)) (.ite (.eqt true (.v 26) (.v 44)) (.ite (.eqt true (.v 27) (.v 45)) (.ite (.eqt true (.v 28) (.v 46)) (.ite (.eqt true (.v 29) (.v 47)) (.ite (.eqt true (.v 30) (.v 48)) (.ite (.eqt true (.v 49) (.v 49)) (.ite (.eqt false (.v 32) (.v 50)) (.ite (.eqt false (.v 33) (.v 51)) (.ite (.eqt false (.v 34) (.v 52)) (.c (.b true)) (.c (.b false))) (.c (.b false))) (.c (.b false))) (.c (.b false))) (.c (.b false))) (.c (.b false))) (.c (.b false))) (.c (.b false))) (.c (.b false))) (.c (.b false))) (.c (.b false))) (.c (.b false))) (.c (.b false))) (.ite (.v 83)
  (.lt (.bin .or (.v 80) (.c (.i .u64 128))) (.lt (.bin .or (.v 81) (.c (.i .u64 128))) (.lt (.bin .eql (.v 84) (.v 85)) (.ite (.v 86)
  (.ret [(false, [(.v 65)])])
  (.ret [(false, [(.c (.b false))])])))))
  (.ret [(false, [(.c (.b false))])]))))))))))))))))))))))))))))))))
theorem atlaslaw10_WalkWays_c : compile envIrWl 3000 8 = .ok atlaslaw10_WalkWays_ir := by kernel_rfl
theorem atlaslaw10_WalkWays_p : paramShape Tryd.prog 8 = some [(true, 2), (false, 1), (false, 1), (true, 4), (true, 4)] := by kernel_rfl
theorem atlaslaw10_WalkWays_k : Known gAll 8 (.ir [(true, 2), (false, 1), (false, 1), (true, 4), (true, 4)] atlaslaw10_WalkWays_ir) := known_ir (E := envIrWl) (n := 3000) rfl rfl atlaslaw10_WalkWays_c atlaslaw10_WalkWays_p
/-- atlas/atlaslaw10.awake -/
def atlaslaw10_awake_ir : IR :=
  (.call 11 [(true, [(.c (.i .u64 8192)), (.cat (.one [(.c (.i .u64 0)), (.c (.i .u64 3))]) (.cat (.one [(.c (.i .u64 1)), (.c (.i .u64 1025))]) (.one [(.c (.i .u64 512)), (.c (.i .u64 101377))])))]), (false, [(.c (.i .u64 0))]), (false, [(.c (.i .u64 5))]), (false, [(.c (.i .i64 1))])] [(true, 13), (true, 3)]
  (.chk (.eqt false (.v 0) (.v 0)) (.chk (.eqt false (.v 1) (.v 1)) (.chk (.eqt true (.v 2) (.v 2)) (.chk (.eqt true (.v 3) (.v 3)) (.chk (.eqt true (.v 4) (.v 4)) (.chk (.eqt true (.v 5) (.v 5)) (.chk (.eqt true (.v 6) (.v 6)) (.chk (.eqt true (.v 7) (.v 7)) (.chk (.eqt true (.v 8) (.v 8)) (.chk (.eqt true (.v 9) (.v 9)) (.chk (.eqt false (.v 10) (.v 10)) (.chk (.eqt false (.v 11) (.v 11)) (.chk (.eqt false (.v 12) (.v 12)) (.chk (.eqt true (.v 13) (.v 13)) (.chk (.eqt false (.v 14) (.v 14)) (.chk (.eqt false (.v 15) (.v 15)) (.call 16 [(true, [(.c (.i .u64 8192)), (.cat (.one [(.c (.i .u64 0)), (.c (.i .u64 3))]) (.cat (.one [(.c (.i .u64 1)), (.c (.i .u64 1025))]) (.one [(.c (.i .u64 512)), (.c (.i .u64 101377))])))]), (false, [(.c (.i .u64 0))]), (false, [(.c (.i .u64 5))]), (true, [(.c (.i .i64 1)), (.c (.i .i64 1)), (.c (.b false)), (.c (.b false))])] [(true, 2), (true, 13), (true, 3)]
  (.call 16 [(true, [(.c (.i .u64 8192)), (.cat (.one [(.c (.i .u64 0)), (.c (.i .u64 3))]) (.cat (.one [(.c (.i .u64 1)), (.c (.i .u64 1025))]) (.one [(.c (.i .u64 512)), (.c (.i .u64 101377))])))]), (false, [(.c (.i .u64 0))]), (false, [(.c (.i .u64 5))]), (true, [(.c (.i .i64 2)), (.c (.i .i64 1)), (.c (.b false)), (.c (.b false))])] [(true, 2), (true, 13), (true, 3)]
  (.call 11 [(true, [(.c (.i .u64 8192)), (.cat (.one [(.c (.i .u64 0)), (.c (.i .u64 3))]) (.cat (.one [(.c (.i .u64 1)), (.c (.i .u64 1025))]) (.one [(.c (.i .u64 512)), (.c (.i .u64 101377))])))]), (false, [(.c (.i .u64 0))]), (false, [(.c (.i .u64 1073741824))]), (false, [(.c (.i .i64 1))])] [(true, 13), (true, 3)]
  (.chk (.eqt false (.v 52) (.v 52)) (.chk (.eqt false (.v 53) (.v 53)) (.chk (.eqt true (.v 54) (.v 54)) (.chk (.eqt true (.v 55) (.v 55)) (.chk (.eqt true (.v 56) (.v 56)) (.chk (.eqt true (.v 57) (.v 57)) (.chk (.eqt true (.v 58) (.v 58)) (.chk (.eqt true (.v 59) (.v 59)) (.chk (.eqt true (.v 60) (.v 60)) (.chk (.eqt true (.v 61) (.v 61)) (.chk (.eqt false (.v 62) (.v 62)) (.chk (.eqt false (.v 63) (.v 63)) (.chk (.eqt false (.v 64) (.v 64)) (.chk (.eqt true (.v 65) (.v 65)) (.chk (.eqt false (.v 66) (.v 66)) (.chk (.eqt false (.v 67) (.v 67)) (.call 11 [(true, [(.c (.i .u64 8192)), (.cat (.one [(.c (.i .u64 0)), (.c (.i .u64 3))]) (.cat (.one [(.c (.i .u64 1)), (.c (.i .u64 1025))]) (.one [(.c (.i .u64 512)), (.c (.i .u64 101377))])))]), (false, [(.c (.i .u64 0))]), (false, [(.c (.i .u64 274877906944))]), (false, [(.c (.i .i64 0))])] [(true, 13), (true, 3)]
  (.chk (.eqt false (.v 68) (.v 68)) (.chk (.eqt false (.v 69) (.v 69)) (.chk (.eqt true (.v 70) (.v 70)) (.chk (.eqt true (.v 71) (.v 71)) (.chk (.eqt true (.v 72) (.v 72)) (.chk (.eqt true (.v 73) (.v 73)) (.chk (.eqt true (.v 74) (.v 74)) (.chk (.eqt true (.v 75) (.v 75)) (.chk (.eqt true (.v 76) (.v 76)) (.chk (.eqt true (.v 77) (.v 77)) (.chk (.eqt false (.v 78) (.v 78)) (.chk (.eqt false (.v 79) (.v 79)) (.chk (.eqt false (.v 80) (.v 80)) (.chk (.eqt true (.v 81) (.v 81)) (.chk (.eqt false (.v 82) (.v 82)) (.chk (.eqt false (.v 83) (.v 83)) (.call 11 [(true, [(.c (.i .u64 8192)), (.cat (.one [(.c (.i .u64 0)), (.c (.i .u64 3))]) (.cat (.one [(.c (.i .u64 1)), (.c (.i .u64 1025))]) (.one [(.c (.i .u64 512)), (.c (.i .u64 101377))])))]), (false, [(.c (.i .u64 0))]), (false, [(.c (.i .u64 2147483648))]), (false, [(.c (.i .i64 0))])] [(true, 13), (true, 3)]
  (.chk (.eqt false (.v 84) (.v 84)) (.chk (.eqt false (.v 85) (.v 85)) (.chk (.eqt true (.v 86) (.v 86)) (.chk (.eqt true (.v 87) (.v 87)) (.chk (.eqt true (.v 88) (.v 88)) (.chk (.eqt true (.v 89) (.v 89)) (.chk (.eqt true (.v 90) (.v 90)) (.chk (.eqt true (.v 91) (.v 91)) (.chk (.eqt true (.v 92) (.v 92)) (.chk (.eqt true (.v 93) (.v 93)) (.chk (.eqt false (.v 94) (.v 94)) (.chk (.eqt false (.v 95) (.v 95)) (.chk (.eqt false (.v 96) (.v 96)) (.chk (.eqt true (.v 97) (.v 97)) (.chk (.eqt false (.v 98) (.v 98)) (.chk (.eqt false (.v 99) (.v 99)) (.lt (.bin .eql (.v 0) (.c (.i .i64 2))) (.ite (.v 100)
  (.lt (.bin .eql (.v 1) (.c (.i .u64 0))) (.ite (.v 101)
  (.lt (.un .not (.v 13)) (.ite (.v 102)
  (.call 13 [(true, (vr 0 13)), (false, [(.c (.i .u64 5))])] [(false, 1)]
  (.lt (.bin .eql (.v 103) (.c (.i .u64 5))) (.ite (.v 104)
  (.lt (.un .not (.v 31)) (.ite (.v 105)
  (.ite (.v 26)
  (.lt (.un .not (.v 27)) (.ite (.v 106)
  (.lt (.len (.v 17)) (.lt (.bin .eql (.v 107) (.c (.i .i64 3))) (.ite (.v 108)
  (.chk (.inb (.v 17) (.c (.i .i64 0)) 2) (.lt (.bin .eql (.idx (.v 17) (.c (.i .i64 0)) 1) (.c (.i .u64 67))) (.ite (.v 109)
  (.lt (.bin .eql (.v 50) (.c (.i .i64 15))) (.ite (.v 110)
  (.lt (.bin .eql (.v 51) (.c (.i .u64 5))) (.ite (.v 111)
  (.lt (.bin .eql (.v 66) (.c (.i .i64 5))) (.ite (.v 112)
  (.lt (.bin .eql (.v 82) (.c (.i .i64 12))) (.ite (.v 113)
  (.lt (.bin .eql (.v 98) (.c (.i .i64 12))) (.ite (.v 114)
  (.ret [(false, [(.v 97)])])
  (.ret [(false, [(.c (.b false))])])))
  (.ret [(false, [(.c (.b false))])])))
  (.ret [(false, [(.c (.b false))])])))
  (.ret [(false, [(.c (.b false))])])))
  (.ret [(false, [(.c (.b false))])])))
  (.ret [(false, [(.c (.b false))])]))))
  (.ret [(false, [(.c (.b false))])]))))
  (.ret [(false, [(.c (.b false))])])))
  (.ret [(false, [(.c (.b false))])]))
  (.ret [(false, [(.c (.b false))])])))
  (.ret [(false, [(.c (.b false))])]))))
  (.ret [(false, [(.c (.b false))])])))
  (.ret [(false, [(.c (.b false))])])))
  (.ret [(false, [(.c (.b false))])])))))))))))))))))))))))))))))))))))))))))))))))))))))))))))))))))))))))))
theorem atlaslaw10_awake_c : compile envIrWl 3000 9 = .ok atlaslaw10_awake_ir := by kernel_rfl
theorem atlaslaw10_awake_p : paramShape Tryd.prog 9 = some [] := by kernel_rfl
theorem atlaslaw10_awake_k : Known gAll 9 (.ir [] atlaslaw10_awake_ir) := known_ir (E := envIrWl) (n := 3000) rfl rfl atlaslaw10_awake_c atlaslaw10_awake_p
def TIrWl : Tbl :=
  (9, .ir [] atlaslaw10_awake_ir) ::
  []
theorem TIrWl_ok : ∀ x ∈ TIrWl, Known gAll x.1 x.2 :=
  kcons atlaslaw10_awake_k <|
  fun _ h => nomatch h
end Go.Proofs.YthegeidecapfaaaDoor.Sx
