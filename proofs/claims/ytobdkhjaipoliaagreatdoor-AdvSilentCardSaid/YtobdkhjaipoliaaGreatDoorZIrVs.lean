/-
  IRs of functions, printed by a program of mine (wip/tools/mkir.py, ev.run.lean); each is checked by the kernel against the executor.
-/
import Derived.Test.YtobdkhjaipoliaaGreatDoorZBf
import Derived.Test.YtobdkhjaipoliaaGreatDoorProg
namespace Go.Proofs.YtobdkhjaipoliaaGreatDoor.Sx
open Go
set_option maxRecDepth 100000
noncomputable def envIrVs : Env := { P := Tryz.prog, G := gAll, inl := [], unr := [], ded := true }
def atlaslaw17_AdvSilent_ir : IR :=
  (.call 4 [] [(false, 1)]
  (.lt (.un .not (.v 17)) (.ite (.v 18)
  (.call 4 [] [(false, 1)]
  (.ret [(false, [(.v 19)])]))
  (.call 5 [(true, (vr 0 8)), (true, [(.v 8), (.v 9)])] [(false, 1)]
  (.lt (.un .not (.v 19)) (.ite (.v 20)
  (.call 4 [] [(false, 1)]
  (.ret [(false, [(.v 21)])]))
  (.lt (.bin .eql (.v 1) (.c (.i .u64 0))) (.ite (.v 21)
  (.call 4 [] [(false, 1)]
  (.ret [(false, [(.v 22)])]))
  (.call 6 [(true, (vr 0 8)), (true, [(.v 8), (.v 9)])] [(false, 1)]
  (.lt (.un .not (.v 22)) (.ite (.v 23)
  (.call 4 [] [(false, 1)]
  (.ret [(false, [(.v 24)])]))
  (.lt (.len (.v 10)) (.lt (.bin .gtr (.v 24) (.c (.i .i64 20))) (.ite (.v 25)
  (.call 4 [] [(false, 1)]
  (.ret [(false, [(.v 26)])]))
  (.loop ([(.c (.i .i64 0))] ++ vr 0 10)
  (.lt (.len (.v 10)) (.lt (.bin .lss (.v 26) (.v 37)) (.ite (.v 38)
  (.chk (.inb (.v 10) (.v 26) 1) (.lt (.bin .rem (.v 26) (.c (.i .i64 3))) (.call 7 [(true, (vr 27 8)), (true, [(.v 35), (.v 36)]), (false, [(.idx (.v 10) (.v 26) 0)]), (false, [(.v 39)])] [(true, 8), (true, 2)]
  (.lt (.bin .rem (.v 26) (.c (.i .i64 2))) (.lt (.bin .eql (.v 50) (.c (.i .i64 1))) (.ite (.v 51)
  (.call 8 [(true, (vr 40 8)), (false, [(.v 11)]), (false, [(.v 12)])] [(true, 8), (false, 1)]
  (.call 9 [(true, (vr 52 8)), (false, [(.v 12)])] [(true, 8), (false, 1)]
  (.lt (.bin .add (.v 26) (.c (.i .i64 1))) (.cont 0 ([(.v 70)] ++ vr 61 8 ++ [(.v 48), (.v 49)])))))
  (.call 9 [(true, (vr 40 8)), (false, [(.v 12)])] [(true, 8), (false, 1)]
  (.lt (.bin .add (.v 26) (.c (.i .i64 1))) (.cont 0 ([(.v 61)] ++ vr 52 8 ++ [(.v 48), (.v 49)]))))))))))
  (.call 10 [(false, [(.v 15)])] [(false, 1)]
  (.lt (.bin .rem (.v 13) (.c (.i .u8 3))) (.lt (.cv .i64 (.v 40)) (.call 11 [(true, (vr 0 8)), (true, [(.v 8), (.v 9)]), (false, [(.v 41)]), (false, [(.v 14)]), (false, [(.v 39)]), (false, [(.v 16)])] [(true, 8), (true, 2), (true, 4)]
  (.lt (.bin .rem (.v 13) (.c (.i .u8 3))) (.lt (.cv .i64 (.v 56)) (.call 11 [(true, (vr 27 8)), (true, [(.v 35), (.v 36)]), (false, [(.v 57)]), (false, [(.v 14)]), (false, [(.v 39)]), (false, [(.v 16)])] [(true, 8), (true, 2), (true, 4)]
  (.may (.bin .eql (.len (.v 0)) (.c (.i .i64 0)))
  (.lt (.len (.v 0)) (.lt (.bin .eql (.v 72) (.c (.i .i64 0))) (.ret [(false, [(.v 73)])])))
  (.lt (.ite (.eqt true (.v 53) (.v 69)) (.ite (.eqt false (.v 54) (.v 70)) (.ite (.eqt false (.v 55) (.v 71)) (.c (.b true)) (.c (.b false))) (.c (.b false))) (.c (.b false))) (.ite (.v 72)
  (.lt (.ite (.eqt false (.v 52) (.v 68)) (.ite (.eqt true (.v 53) (.v 69)) (.ite (.eqt false (.v 54) (.v 70)) (.ite (.eqt false (.v 55) (.v 71)) (.c (.b true)) (.c (.b false))) (.c (.b false))) (.c (.b false))) (.c (.b false))) (.ite (.v 73)
  (.lt (.len (.v 51)) (.lt (.len (.v 67)) (.lt (.bin .eql (.v 74) (.v 75)) (.ite (.v 76)
  (.ret [(false, [(.c (.b true))])])
  (.lt (.len (.v 0)) (.lt (.bin .eql (.v 77) (.c (.i .i64 0))) (.ret [(false, [(.v 78)])])))))))
  (.call 12 [(true, [(.v 8), (.v 9)]), (false, [(.v 52)]), (false, [(.v 68)])] [(false, 1)]
  (.ite (.v 74)
  (.lt (.len (.v 51)) (.lt (.len (.v 67)) (.lt (.bin .eql (.v 75) (.v 76)) (.ite (.v 77)
  (.ret [(false, [(.c (.b true))])])
  (.lt (.len (.v 0)) (.lt (.bin .eql (.v 78) (.c (.i .i64 0))) (.ret [(false, [(.v 79)])])))))))
  (.lt (.len (.v 0)) (.lt (.bin .eql (.v 75) (.c (.i .i64 0))) (.ret [(false, [(.v 76)])])))))))
  (.lt (.len (.v 0)) (.lt (.bin .eql (.v 73) (.c (.i .i64 0))) (.ret [(false, [(.v 74)])])))))))))))))))))))))))))))))))
theorem atlaslaw17_AdvSilent_c : compile envIrVs 3000 3 = .ok atlaslaw17_AdvSilent_ir := by kernel_rfl
theorem atlaslaw17_AdvSilent_p : paramShape Tryz.prog 3 = some [(true, 8), (true, 2), (false, 1), (false, 1), (false, 1), (false, 1), (false, 1), (false, 1), (false, 1)] := by kernel_rfl
def atlaslaw17_tables_ir : IR :=
  (.loop [(.c (.b false)), (.c (.i .i64 0))]
  (.lt (.bin .lss (.v 5) (.c (.i .i64 64))) (.ite (.v 6)
  (.lt (.cv .u64 (.v 5)) (.lt (.bin .shr (.v 2) (.v 7)) (.lt (.bin .rem (.v 8) (.c (.i .u64 2))) (.lt (.cv .u64 (.v 5)) (.lt (.bin .shr (.v 3) (.v 10)) (.lt (.bin .rem (.v 11) (.c (.i .u64 2))) (.lt (.bin .neq (.v 9) (.v 12)) (.ite (.v 13)
  (.lt (.bin .rem (.v 5) (.c (.i .i64 8))) (.lt (.bin .neq (.v 14) (.c (.i .i64 6))) (.ite (.v 15)
  (.ret [(false, [(.c (.b false))])])
  (.lt (.bin .add (.v 5) (.c (.i .i64 1))) (.cont 0 [(.v 4), (.v 16)])))))
  (.lt (.bin .add (.v 5) (.c (.i .i64 1))) (.cont 0 [(.v 4), (.v 14)]))))))))))
  (.lt (.len (.v 1)) (.lt (.bin .gtr (.v 7) (.c (.i .i64 0))) (.ret [(false, [(.v 8)])]))))))
theorem atlaslaw17_tables_c : compile envIrVs 3000 12 = .ok atlaslaw17_tables_ir := by kernel_rfl
theorem atlaslaw17_tables_p : paramShape Tryz.prog 12 = some [(true, 2), (false, 1), (false, 1)] := by kernel_rfl
end Go.Proofs.YtobdkhjaipoliaaGreatDoor.Sx
