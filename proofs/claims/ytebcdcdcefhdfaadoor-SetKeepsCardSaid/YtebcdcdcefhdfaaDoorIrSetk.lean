/-
  IRs of functions, printed by a program of mine (wip/tools/mkir.py, ev.run.lean); each is checked by the kernel against the executor.
-/
import Derived.Test.YtebcdcdcefhdfaaDoorRun
import Derived.Test.YtebcdcdcefhdfaaDoorProg
namespace Go.Proofs.YtebcdcdcefhdfaaDoor.Sx
open Go
set_option maxRecDepth 100000
noncomputable def envIrSetk : Env := { P := Tryd.prog, G := gAll, inl := [], unr := [], jn := List.range 400 }
/-- atlas/atlaslaw13.SetKeeps -/
def atlaslaw13_SetKeeps_ir : IR :=
  (.jn (.ite (.v 57)
  (.call 7 [] [(false, 1)]
  (.ret [(false, [(.v 58)])]))
  (.call 20 [(true, (vr 0 45)), (true, (vr 45 11)), (false, [(.v 56)])] [(true, 45), (false, 1)]
  (.jn (.ite (.v 104)
  (.ret [(false, [(.c (.b false))])])
  (.loop [(.c (.b false)), (.c (.b false)), (.c (.i .i64 0))]
  (.lt (.bin .lss (.v 107) (.c (.i .i64 4))) (.ite (.v 108)
  (.jn (.jn (.ite (.v 110)
  (.ret [(false, [(.c (.b false))])])
  (.lt (.bin .add (.v 107) (.c (.i .i64 1))) (.cont 0 [(.v 105), (.v 109), (.v 111)])))
  (.lt (.bin .neq (.v 107) (.v 103)) (.ite (.v 110)
  (.chk (.rng (.v 107) 4) (.call 18 [(true, (vr 45 11)), (true, (selR 107 [0, 11, 22, 33] 11))] [(false, 1)]
  (.chk (.rng (.v 107) 4) (.ite (selE (.v 107) 0 [(.v 0), (.v 11), (.v 22), (.v 33)])
  (.chk (.rng (.v 107) 4) (.lt (.un .not (selE (.v 107) 0 [(.v 58), (.v 69), (.v 80), (.v 91)])) (.lt (.un .not (.eqt true (.v 111) (.v 112))) (.ite (.v 113)
  (.cont 1 [(.c (.b true))])
  (.lt (.bin .neq (.v 107) (.v 103)) (.ite (.v 114)
  (.chk (.rng (.v 107) 4) (.call 18 [(true, (vr 45 11)), (true, (selR 107 [0, 11, 22, 33] 11))] [(false, 1)]
  (.lt (.un .not (.v 115)) (.ite (.v 116)
  (.chk (.rng (.v 107) 4) (.chk (.rng (.v 107) 4) (.lt (.un .not (.ite (.eqt true (selE (.v 107) 0 [(.v 58), (.v 69), (.v 80), (.v 91)]) (selE (.v 107) 0 [(.v 0), (.v 11), (.v 22), (.v 33)])) (.ite (.eqt false (selE (.v 107) 0 [(.v 59), (.v 70), (.v 81), (.v 92)]) (selE (.v 107) 0 [(.v 1), (.v 12), (.v 23), (.v 34)])) (.ite (.eqt true (selE (.v 107) 0 [(.v 60), (.v 71), (.v 82), (.v 93)]) (selE (.v 107) 0 [(.v 2), (.v 13), (.v 24), (.v 35)])) (.ite (.eqt false (selE (.v 107) 0 [(.v 61), (.v 72), (.v 83), (.v 94)]) (selE (.v 107) 0 [(.v 3), (.v 14), (.v 25), (.v 36)])) (.ite (.eqt false (selE (.v 107) 0 [(.v 62), (.v 73), (.v 84), (.v 95)]) (selE (.v 107) 0 [(.v 4), (.v 15), (.v 26), (.v 37)])) (.ite (.eqt false (selE (.v 107) 0 [(.v 63), (.v 74), (.v 85), (.v 96)]) (selE (.v 107) 0 [(.v 5), (.v 16), (.v 27), (.v 38)])) (.ite (.eqt true (selE (.v 107) 0 [(.v 64), (.v 75), (.v 86), (.v 97)]) (selE (.v 107) 0 [(.v 6), (.v 17), (.v 28), (.v 39)])) (.ite (.eqt true (selE (.v 107) 0 [(.v 65), (.v 76), (.v 87), (.v 98)]) (selE (.v 107) 0 [(.v 7), (.v 18), (.v 29), (.v 40)])) (.ite (.eqt true (selE (.v 107) 0 [(.v 66), (.v 77), (.v 88), (.v 99)]) (selE (.v 107) 0 [(.v 8), (.v 19), (.v 30), (.v 41)])) (.ite (.eqt true (selE (.v 107) 0 [(.v 67), (.v 78), (.v 89), (.v 100)]) (selE (.v 107) 0 [(.v 9), (.v 20), (.v 31), (.v 42)])) (.ite (.eqt true (selE (.v 107) 0 [(.v 68), (.v 79), (.v 90), (.v 101)]) (selE (.v 107) 0 [(.v 10), (.v 21), (.v 32), (.v 43)])) (.c (.b true)) (.c (.b false))) (.c (.b false))) (.c (.b false))) (.c (.b false))) (.c (.b false))) (.c (.b false))) (.c (.b false))) (.c (.b false))) (.c (.b false))) (.c (.b false))) (.c (.b false)))) (.cont 1 [(.v 117)]))))
  (.cont 1 [(.c (.b false))])))))
  (.cont 1 [(.c (.b false))])))))))
  (.lt (.un .not (.eqt true (.v 111) (.c (.b false)))) (.ite (.v 112)
  (.cont 1 [(.c (.b true))])
  (.lt (.bin .neq (.v 107) (.v 103)) (.ite (.v 113)
  (.chk (.rng (.v 107) 4) (.call 18 [(true, (vr 45 11)), (true, (selR 107 [0, 11, 22, 33] 11))] [(false, 1)]
  (.lt (.un .not (.v 114)) (.ite (.v 115)
  (.chk (.rng (.v 107) 4) (.chk (.rng (.v 107) 4) (.lt (.un .not (.ite (.eqt true (selE (.v 107) 0 [(.v 58), (.v 69), (.v 80), (.v 91)]) (selE (.v 107) 0 [(.v 0), (.v 11), (.v 22), (.v 33)])) (.ite (.eqt false (selE (.v 107) 0 [(.v 59), (.v 70), (.v 81), (.v 92)]) (selE (.v 107) 0 [(.v 1), (.v 12), (.v 23), (.v 34)])) (.ite (.eqt true (selE (.v 107) 0 [(.v 60), (.v 71), (.v 82), (.v 93)]) (selE (.v 107) 0 [(.v 2), (.v 13), (.v 24), (.v 35)])) (.ite (.eqt false (selE (.v 107) 0 [(.v 61), (.v 72), (.v 83), (.v 94)]) (selE (.v 107) 0 [(.v 3), (.v 14), (.v 25), (.v 36)])) (.ite (.eqt false (selE (.v 107) 0 [(.v 62), (.v 73), (.v 84), (.v 95)]) (selE (.v 107) 0 [(.v 4), (.v 15), (.v 26), (.v 37)])) (.ite (.eqt false (selE (.v 107) 0 [(.v 63), (.v 74), (.v 85), (.v 96)]) (selE (.v 107) 0 [(.v 5), (.v 16), (.v 27), (.v 38)])) (.ite (.eqt true (selE (.v 107) 0 [(.v 64), (.v 75), (.v 86), (.v 97)]) (selE (.v 107) 0 [(.v 6), (.v 17), (.v 28), (.v 39)])) (.ite (.eqt true (selE (.v 107) 0 [(.v 65), (.v 76), (.v 87), (.v 98)]) (selE (.v 107) 0 [(.v 7), (.v 18), (.v 29), (.v 40)])) (.ite (.eqt true (selE (.v 107) 0 [(.v 66), (.v 77), (.v 88), (.v 99)]) (selE (.v 107) 0 [(.v 8), (.v 19), (.v 30), (.v 41)])) (.ite (.eqt true (selE (.v 107) 0 [(.v 67), (.v 78), (.v 89), (.v 100)]) (selE (.v 107) 0 [(.v 9), (.v 20), (.v 31), (.v 42)])) (.ite (.eqt true (selE (.v 107) 0 [(.v 68), (.v 79), (.v 90), (.v 101)]) (selE (.v 107) 0 [(.v 10), (.v 21), (.v 32), (.v 43)])) (.c (.b true)) (.c (.b false))) (.c (.b false))) (.c (.b false))) (.c (.b false))) (.c (.b false))) (.c (.b false))) (.c (.b false))) (.c (.b false))) (.c (.b false))) (.c (.b false))) (.c (.b false)))) (.cont 1 [(.v 116)]))))
  (.cont 1 [(.c (.b false))])))))
  (.cont 1 [(.c (.b false))])))))))))
  (.lt (.bin .neq (.v 107) (.v 103)) (.ite (.v 111)
  (.chk (.rng (.v 107) 4) (.call 18 [(true, (vr 45 11)), (true, (selR 107 [0, 11, 22, 33] 11))] [(false, 1)]
  (.lt (.un .not (.v 112)) (.ite (.v 113)
  (.chk (.rng (.v 107) 4) (.chk (.rng (.v 107) 4) (.lt (.un .not (.ite (.eqt true (selE (.v 107) 0 [(.v 58), (.v 69), (.v 80), (.v 91)]) (selE (.v 107) 0 [(.v 0), (.v 11), (.v 22), (.v 33)])) (.ite (.eqt false (selE (.v 107) 0 [(.v 59), (.v 70), (.v 81), (.v 92)]) (selE (.v 107) 0 [(.v 1), (.v 12), (.v 23), (.v 34)])) (.ite (.eqt true (selE (.v 107) 0 [(.v 60), (.v 71), (.v 82), (.v 93)]) (selE (.v 107) 0 [(.v 2), (.v 13), (.v 24), (.v 35)])) (.ite (.eqt false (selE (.v 107) 0 [(.v 61), (.v 72), (.v 83), (.v 94)]) (selE (.v 107) 0 [(.v 3), (.v 14), (.v 25), (.v 36)])) (.ite (.eqt false (selE (.v 107) 0 [(.v 62), (.v 73), (.v 84), (.v 95)]) (selE (.v 107) 0 [(.v 4), (.v 15), (.v 26), (.v 37)])) (.ite (.eqt false (selE (.v 107) 0 [(.v 63), (.v 74), (.v 85), (.v 96)]) (selE (.v 107) 0 [(.v 5), (.v 16), (.v 27), (.v 38)])) (.ite (.eqt true (selE (.v 107) 0 [(.v 64), (.v 75), (.v 86), (.v 97)]) (selE (.v 107) 0 [(.v 6), (.v 17), (.v 28), (.v 39)])) (.ite (.eqt true (selE (.v 107) 0 [(.v 65), (.v 76), (.v 87), (.v 98)]) (selE (.v 107) 0 [(.v 7), (.v 18), (.v 29), (.v 40)])) (.ite (.eqt true (selE (.v 107) 0 [(.v 66), (.v 77), (.v 88), (.v 99)]) (selE (.v 107) 0 [(.v 8), (.v 19), (.v 30), (.v 41)])) (.ite (.eqt true (selE (.v 107) 0 [(.v 67), (.v 78), (.v 89), (.v 100)]) (selE (.v 107) 0 [(.v 9), (.v 20), (.v 31), (.v 42)])) (.ite (.eqt true (selE (.v 107) 0 [(.v 68), (.v 79), (.v 90), (.v 101)]) (selE (.v 107) 0 [(.v 10), (.v 21), (.v 32), (.v 43)])) (.c (.b true)) (.c (.b false))) (.c (.b false))) (.c (.b false))) (.c (.b false))) (.c (.b false))) (.c (.b false))) (.c (.b false))) (.c (.b false))) (.c (.b false))) (.c (.b false))) (.c (.b false)))) (.cont 1 [(.v 114)]))))
  (.cont 1 [(.c (.b false))])))))
  (.cont 1 [(.c (.b false))]))))))
  (.ite (.v 106)
  (.cont 1 [(.c (.b true))])
  (.chk (.rng (.v 107) 4) (.lt (.un .not (selE (.v 107) 0 [(.v 0), (.v 11), (.v 22), (.v 33)])) (.ite (.v 109)
  (.cont 1 [(.c (.b true))])
  (.chk (.rng (.v 107) 4) (.call 18 [(true, (vr 45 11)), (true, (selR 107 [0, 11, 22, 33] 11))] [(false, 1)]
  (.cont 1 [(.v 110)]))))))))
  (.jn (.jn (.ite (.v 110)
  (.ret [(false, [(.c (.b false))])])
  (.call 23 [(false, [(.v 49)])] [(false, 1)]
  (.call 12 [(true, (vr 58 45)), (false, [(.v 46)]), (false, [(.v 111)]), (false, [(.v 48)])] [(false, 1), (false, 1)]
  (.jn (.ret [(false, [(.v 114)])])
  (.ite (.v 113)
  (.lt (.bin .leq (.v 112) (.v 103)) (.ite (.v 114)
  (.call 24 [(false, [(.v 102)])] [(false, 1)]
  (.lt (.bin .quo (.v 115) (.c (.i .i64 2))) (.lt (.bin .quo (.v 103) (.c (.i .i64 2))) (.lt (.bin .neq (.v 116) (.v 117)) (.cont 1 [(.v 118)])))))
  (.cont 1 [(.c (.b false))])))
  (.cont 1 [(.c (.b false))]))))))
  (.lt (.bin .geq (.v 56) (.c (.i .i64 0))) (.ite (.v 110)
  (.lt (.bin .leq (.v 56) (.c (.i .i64 3))) (.ite (.v 111)
  (.lt (.bin .neq (.v 103) (.v 56)) (.ite (.v 112)
  (.cont 1 [(.c (.b true))])
  (.lt (.bin .lss (.v 56) (.c (.i .i64 0))) (.ite (.v 113)
  (.ite (.v 106)
  (.lt (.un .not (.v 109)) (.cont 1 [(.v 114)]))
  (.cont 1 [(.c (.b false))]))
  (.lt (.bin .gtr (.v 56) (.c (.i .i64 3))) (.ite (.v 114)
  (.ite (.v 106)
  (.lt (.un .not (.v 109)) (.cont 1 [(.v 115)]))
  (.cont 1 [(.c (.b false))]))
  (.cont 1 [(.c (.b false))])))))))
  (.lt (.bin .lss (.v 56) (.c (.i .i64 0))) (.ite (.v 112)
  (.ite (.v 106)
  (.lt (.un .not (.v 109)) (.cont 1 [(.v 113)]))
  (.cont 1 [(.c (.b false))]))
  (.lt (.bin .gtr (.v 56) (.c (.i .i64 3))) (.ite (.v 113)
  (.ite (.v 106)
  (.lt (.un .not (.v 109)) (.cont 1 [(.v 114)]))
  (.cont 1 [(.c (.b false))]))
  (.cont 1 [(.c (.b false))])))))))
  (.lt (.bin .lss (.v 56) (.c (.i .i64 0))) (.ite (.v 111)
  (.ite (.v 106)
  (.lt (.un .not (.v 109)) (.cont 1 [(.v 112)]))
  (.cont 1 [(.c (.b false))]))
  (.lt (.bin .gtr (.v 56) (.c (.i .i64 3))) (.ite (.v 112)
  (.ite (.v 106)
  (.lt (.un .not (.v 109)) (.cont 1 [(.v 113)]))
  (.cont 1 [(.c (.b false))]))
  (.cont 1 [(.c (.b false))]))))))))
  (.chk (.rng (.v 103) 4) (.lt (.un .not (selE (.v 103) 0 [(.v 0), (.v 11), (.v 22), (.v 33)])) (.ite (.v 109)
  (.cont 1 [(.c (.b true))])
  (.chk (.rng (.v 103) 4) (.call 18 [(true, (vr 45 11)), (true, (selR 103 [0, 11, 22, 33] 11))] [(false, 1)]
  (.cont 1 [(.v 110)])))))))))))
  (.lt (.bin .lss (.v 103) (.c (.i .i64 0))) (.ite (.v 104)
  (.cont 0 [(.c (.b true))])
  (.lt (.bin .gtr (.v 103) (.c (.i .i64 3))) (.ite (.v 105)
  (.cont 0 [(.c (.b true))])
  (.chk (.rng (.v 103) 4) (.lt (.un .not (.ite (.eqt true (selE (.v 103) 0 [(.v 58), (.v 69), (.v 80), (.v 91)]) (.v 45)) (.ite (.eqt false (selE (.v 103) 0 [(.v 59), (.v 70), (.v 81), (.v 92)]) (.v 46)) (.ite (.eqt true (selE (.v 103) 0 [(.v 60), (.v 71), (.v 82), (.v 93)]) (.v 47)) (.ite (.eqt false (selE (.v 103) 0 [(.v 61), (.v 72), (.v 83), (.v 94)]) (.v 48)) (.ite (.eqt false (selE (.v 103) 0 [(.v 62), (.v 73), (.v 84), (.v 95)]) (.v 49)) (.ite (.eqt false (selE (.v 103) 0 [(.v 63), (.v 74), (.v 85), (.v 96)]) (.v 50)) (.ite (.eqt true (selE (.v 103) 0 [(.v 64), (.v 75), (.v 86), (.v 97)]) (.v 51)) (.ite (.eqt true (selE (.v 103) 0 [(.v 65), (.v 76), (.v 87), (.v 98)]) (.v 52)) (.ite (.eqt true (selE (.v 103) 0 [(.v 66), (.v 77), (.v 88), (.v 99)]) (.v 53)) (.ite (.eqt true (selE (.v 103) 0 [(.v 67), (.v 78), (.v 89), (.v 100)]) (.v 54)) (.ite (.eqt true (selE (.v 103) 0 [(.v 68), (.v 79), (.v 90), (.v 101)]) (.v 55)) (.c (.b true)) (.c (.b false))) (.c (.b false))) (.c (.b false))) (.c (.b false))) (.c (.b false))) (.c (.b false))) (.c (.b false))) (.c (.b false))) (.c (.b false))) (.c (.b false))) (.c (.b false)))) (.ite (.v 106)
  (.cont 0 [(.c (.b true))])
  (.call 8 [(true, (vr 58 45))] [(false, 1)]
  (.lt (.un .not (.v 107)) (.ite (.v 108)
  (.cont 0 [(.c (.b true))])
  (.call 22 [(true, (vr 0 45))] [(false, 1)]
  (.ite (.v 109)
  (.call 22 [(true, (vr 58 45))] [(false, 1)]
  (.lt (.un .not (.v 110)) (.cont 0 [(.v 111)])))
  (.cont 0 [(.c (.b false))]))))))))))))))))
  (.call 7 [] [(false, 1)]
  (.lt (.un .not (.v 57)) (.ite (.v 58)
  (.cont 0 [(.c (.b true))])
  (.call 9 [(true, (vr 0 45))] [(false, 1)]
  (.lt (.un .not (.v 59)) (.ite (.v 60)
  (.cont 0 [(.c (.b true))])
  (.call 10 [(true, (vr 45 11))] [(false, 1)]
  (.lt (.un .not (.v 61)) (.ite (.v 62)
  (.cont 0 [(.c (.b true))])
  (.lt (.un .not (.v 45)) (.cont 0 [(.v 63)]))))))))))))
theorem atlaslaw13_SetKeeps_c : compile envIrSetk 3000 4 = .ok atlaslaw13_SetKeeps_ir := by kernel_rfl
theorem atlaslaw13_SetKeeps_p : paramShape Tryd.prog 4 = some [(true, 45), (true, 11), (false, 1)] := by kernel_rfl
theorem atlaslaw13_SetKeeps_k : Known gAll 4 (.ir [(true, 45), (true, 11), (false, 1)] atlaslaw13_SetKeeps_ir) := known_ir (E := envIrSetk) (n := 3000) rfl rfl atlaslaw13_SetKeeps_c atlaslaw13_SetKeeps_p
noncomputable def envIrSetka : Env := { P := Tryd.prog, G := gAll, inl := [], unr := [] }
/-- atlas/atlaslaw13.awake -/
def atlaslaw13_awake_ir : IR :=
  (.call 26 [(false, [(.c (.i .u64 5))]), (false, [(.c (.i .u64 1))])] [(true, 11)]
  (.call 20 [(true, [(.c (.b false)), (.c (.i .u64 0)), (.c (.b false)), (.c (.i .i64 0)), (.c (.i .u64 0)), (.c (.i .u64 0)), (.c (.b false)), (.c (.b false)), (.c (.b false)), (.c (.b false)), (.c (.b false)), (.c (.b false)), (.c (.i .u64 0)), (.c (.b false)), (.c (.i .i64 0)), (.c (.i .u64 0)), (.c (.i .u64 0)), (.c (.b false)), (.c (.b false)), (.c (.b false)), (.c (.b false)), (.c (.b false)), (.c (.b false)), (.c (.i .u64 0)), (.c (.b false)), (.c (.i .i64 0)), (.c (.i .u64 0)), (.c (.i .u64 0)), (.c (.b false)), (.c (.b false)), (.c (.b false)), (.c (.b false)), (.c (.b false)), (.c (.b false)), (.c (.i .u64 0)), (.c (.b false)), (.c (.i .i64 0)), (.c (.i .u64 0)), (.c (.i .u64 0)), (.c (.b false)), (.c (.b false)), (.c (.b false)), (.c (.b false)), (.c (.b false)), (.c (.i .u8 0))]), (true, (vr 0 11)), (false, [(.c (.i .i64 (-1)))])] [(true, 45), (false, 1)]
  (.call 26 [(false, [(.c (.i .u64 6))]), (false, [(.c (.i .u64 1))])] [(true, 11)]
  (.call 20 [(true, (vr 11 45)), (true, (vr 57 11)), (false, [(.c (.i .i64 9))])] [(true, 45), (false, 1)]
  (.call 26 [(false, [(.c (.i .u64 7))]), (false, [(.c (.i .u64 1))])] [(true, 11)]
  (.call 20 [(true, (vr 68 45)), (true, (vr 114 11)), (false, [(.c (.i .i64 0))])] [(true, 45), (false, 1)]
  (.call 26 [(false, [(.c (.i .u64 5))]), (false, [(.c (.i .u64 1))])] [(true, 11)]
  (.call 20 [(true, (vr 68 45)), (true, (vr 171 11)), (false, [(.c (.i .i64 3))])] [(true, 45), (false, 1)]
  (.call 12 [(true, (vr 68 45)), (false, [(.c (.i .u64 1))]), (false, [(.c (.i .u64 24585))]), (false, [(.c (.i .i64 0))])] [(false, 1), (false, 1)]
  (.call 12 [(true, (vr 125 45)), (false, [(.c (.i .u64 1))]), (false, [(.c (.i .u64 20480))]), (false, [(.c (.i .i64 0))])] [(false, 1), (false, 1)]
  (.call 12 [(true, (vr 68 45)), (false, [(.c (.i .u64 2))]), (false, [(.c (.i .u64 24576))]), (false, [(.c (.i .i64 0))])] [(false, 1), (false, 1)]
  (.lt (.bin .eql (.v 56) (.c (.i .i64 0))) (.ite (.v 234)
  (.lt (.bin .eql (.v 113) (.c (.i .i64 1))) (.ite (.v 235)
  (.lt (.bin .eql (.v 170) (.c (.i .i64 0))) (.ite (.v 236)
  (.lt (.bin .eql (.v 227) (.c (.i .i64 3))) (.ite (.v 237)
  (.lt (.bin .eql (.v 228) (.c (.i .i64 1))) (.ite (.v 238)
  (.ite (.v 229)
  (.lt (.un .not (.v 231)) (.ite (.v 239)
  (.lt (.un .not (.v 233)) (.ite (.v 240)
  (.lt (.un .not (.v 182)) (.ite (.v 241)
  (.ite (.v 215)
  (.call 14 [(true, [(.c (.b false)), (.c (.i .u64 0)), (.c (.b false)), (.c (.i .i64 0)), (.c (.i .u64 0)), (.c (.i .u64 0)), (.c (.b false)), (.c (.b false)), (.c (.b false)), (.c (.b false)), (.c (.b false)), (.c (.b false)), (.c (.i .u64 0)), (.c (.b false)), (.c (.i .i64 0)), (.c (.i .u64 0)), (.c (.i .u64 0)), (.c (.b false)), (.c (.b false)), (.c (.b false)), (.c (.b false)), (.c (.b false)), (.c (.b false)), (.c (.i .u64 0)), (.c (.b false)), (.c (.i .i64 0)), (.c (.i .u64 0)), (.c (.i .u64 0)), (.c (.b false)), (.c (.b false)), (.c (.b false)), (.c (.b false)), (.c (.b false)), (.c (.b false)), (.c (.i .u64 0)), (.c (.b false)), (.c (.i .i64 0)), (.c (.i .u64 0)), (.c (.i .u64 0)), (.c (.b false)), (.c (.b false)), (.c (.b false)), (.c (.b false)), (.c (.b false)), (.c (.i .u8 0))]), (false, [(.c (.i .i64 0))])] [(true, 45)]
  (.lt (.bin .eql (.v 286) (.c (.i .u8 3))) (.ite (.v 287)
  (.call 16 [(true, (vr 11 45)), (false, [(.c (.i .i64 0))])] [(true, 45)]
  (.lt (.un .not (.v 288)) (.ite (.v 333)
  (.call 8 [(true, (vr 182 45))] [(false, 1)]
  (.ite (.v 334)
  (.call 8 [(true, [(.c (.b false)), (.c (.i .u64 0)), (.c (.b false)), (.c (.i .i64 0)), (.c (.i .u64 0)), (.c (.i .u64 0)), (.c (.b false)), (.c (.b false)), (.c (.b false)), (.c (.b false)), (.c (.b false)), (.c (.b false)), (.c (.i .u64 0)), (.c (.b false)), (.c (.i .i64 0)), (.c (.i .u64 0)), (.c (.i .u64 0)), (.c (.b false)), (.c (.b false)), (.c (.b false)), (.c (.b false)), (.c (.b false)), (.c (.b false)), (.c (.i .u64 0)), (.c (.b false)), (.c (.i .i64 0)), (.c (.i .u64 0)), (.c (.i .u64 0)), (.c (.b false)), (.c (.b false)), (.c (.b false)), (.c (.b false)), (.c (.b false)), (.c (.b false)), (.c (.i .u64 0)), (.c (.b false)), (.c (.i .i64 0)), (.c (.i .u64 0)), (.c (.i .u64 0)), (.c (.b false)), (.c (.b false)), (.c (.b false)), (.c (.b false)), (.c (.b false)), (.c (.i .u8 8))])] [(false, 1)]
  (.lt (.un .not (.v 335)) (.ite (.v 336)
  (.call 26 [(false, [(.c (.i .u64 5))]), (false, [(.c (.i .u64 1))])] [(true, 11)]
  (.call 26 [(false, [(.c (.i .u64 5))]), (false, [(.c (.i .u64 1))])] [(true, 11)]
  (.call 18 [(true, (vr 337 11)), (true, (vr 348 11))] [(false, 1)]
  (.ite (.v 359)
  (.call 26 [(false, [(.c (.i .u64 5))]), (false, [(.c (.i .u64 1))])] [(true, 11)]
  (.call 26 [(false, [(.c (.i .u64 5))]), (false, [(.c (.i .u64 2))])] [(true, 11)]
  (.call 18 [(true, (vr 360 11)), (true, (vr 371 11))] [(false, 1)]
  (.lt (.un .not (.v 382)) (.ret [(false, [(.v 383)])])))))
  (.ret [(false, [(.c (.b false))])])))))
  (.ret [(false, [(.c (.b false))])]))))
  (.ret [(false, [(.c (.b false))])])))
  (.ret [(false, [(.c (.b false))])]))))
  (.ret [(false, [(.c (.b false))])]))))
  (.ret [(false, [(.c (.b false))])]))
  (.ret [(false, [(.c (.b false))])])))
  (.ret [(false, [(.c (.b false))])])))
  (.ret [(false, [(.c (.b false))])])))
  (.ret [(false, [(.c (.b false))])]))
  (.ret [(false, [(.c (.b false))])])))
  (.ret [(false, [(.c (.b false))])])))
  (.ret [(false, [(.c (.b false))])])))
  (.ret [(false, [(.c (.b false))])])))
  (.ret [(false, [(.c (.b false))])]))))))))))))))
theorem atlaslaw13_awake_c : compile envIrSetka 3000 7 = .ok atlaslaw13_awake_ir := by kernel_rfl
theorem atlaslaw13_awake_p : paramShape Tryd.prog 7 = some [] := by kernel_rfl
theorem atlaslaw13_awake_k : Known gAll 7 (.ir [] atlaslaw13_awake_ir) := known_ir (E := envIrSetka) (n := 3000) rfl rfl atlaslaw13_awake_c atlaslaw13_awake_p
def TIrSetk : Tbl :=
  (4, .ir [(true, 45), (true, 11), (false, 1)] atlaslaw13_SetKeeps_ir) ::
  (7, .ir [] atlaslaw13_awake_ir) ::
  []
theorem TIrSetk_ok : ∀ x ∈ TIrSetk, Known gAll x.1 x.2 :=
  kcons atlaslaw13_SetKeeps_k <|
  kcons atlaslaw13_awake_k <|
  fun _ h => nomatch h
end Go.Proofs.YtebcdcdcefhdfaaDoor.Sx
