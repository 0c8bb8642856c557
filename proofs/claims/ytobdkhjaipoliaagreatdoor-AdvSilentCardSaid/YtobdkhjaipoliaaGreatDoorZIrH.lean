/-
  IRs of functions, printed by a program of mine (wip/tools/mkir.py, ev.run.lean); each is checked by the kernel against the executor.
-/
import Derived.Test.YtobdkhjaipoliaaGreatDoorZBf
import Derived.Test.YtobdkhjaipoliaaGreatDoorProg
namespace Go.Proofs.YtobdkhjaipoliaaGreatDoor.Sx
open Go
set_option maxRecDepth 100000
def inlenvIrH : List FuncId :=
  30 ::
  31 ::
  60 ::
  58 ::
  []
noncomputable def envIrH : Env := { P := Tryz.prog, G := gAll, inl := inlenvIrH, unr := [], ded := true }
def hart_Access_ir : IR :=
  (.lt (.cv .u64 (.v 12)) (.call 28 [(false, [(.v 11)]), (false, [(.v 14)])] [(false, 1)]
  (.lt (.un .not (.v 15)) (.ite (.v 16)
  (.call 29 [(false, [(.v 10)]), (false, [(.v 11)])] [(true, 3)]
  (.ret [(true, (vr 0 8)), (true, [(.v 8), (.v 9)]), (true, [(.c (.i .u64 0)), (.v 17), (.v 18), (.v 19)])]))
  (.call 22 [(true, [(.v 1), (.v 2), (.v 3)])] [(false, 1)]
  (.lt (.un .not (.v 17)) (.ite (.v 18)
  (.lt (.bin .eql (.v 10) (.c (.i .i64 2))) (.ite (.v 19)
  (.call 49 [(true, [(.v 8), (.v 9)]), (false, [(.v 11)]), (false, [(.v 12)]), (false, [(.v 13)])] [(true, 2), (false, 1)]
  (.lt (.bin .neq (.v 22) (.c (.i .i64 0))) (.ite (.v 23)
  (.call 43 [(false, [(.v 10)]), (false, [(.v 11)])] [(true, 3)]
  (.ret [(true, (vr 0 8)), (true, [(.v 8), (.v 9)]), (true, [(.c (.i .u64 0)), (.v 24), (.v 25), (.v 26)])]))
  (.ret [(true, (vr 0 8)), (true, [(.v 20), (.v 21)]), (true, [(.c (.i .u64 0)), (.c (.b false)), (.c (.i .i64 0)), (.c (.i .u64 0))])]))))
  (.call 42 [(true, [(.v 8), (.v 9)]), (false, [(.v 11)]), (false, [(.v 12)])] [(false, 1), (false, 1)]
  (.lt (.bin .neq (.v 21) (.c (.i .i64 0))) (.ite (.v 22)
  (.call 43 [(false, [(.v 10)]), (false, [(.v 11)])] [(true, 3)]
  (.ret [(true, (vr 0 8)), (true, [(.v 8), (.v 9)]), (true, [(.c (.i .u64 0)), (.v 23), (.v 24), (.v 25)])]))
  (.ret [(true, (vr 0 8)), (true, [(.v 8), (.v 9)]), (true, [(.v 20), (.c (.b false)), (.c (.i .i64 0)), (.c (.i .u64 0))])]))))))
  (.call 39 [(false, [(.v 11)])] [(false, 1)]
  (.lt (.un .not (.v 19)) (.ite (.v 20)
  (.call 40 [(false, [(.v 10)]), (false, [(.v 11)])] [(true, 3)]
  (.ite (.v 21)
  (.ret [(true, (vr 0 8)), (true, [(.v 8), (.v 9)]), (true, [(.c (.i .u64 0)), (.v 21), (.v 22), (.v 23)])])
  (.lt (.bin .eql (.v 10) (.c (.i .i64 2))) (.ite (.v 24)
  (.call 49 [(true, [(.v 8), (.v 9)]), (false, [(.c (.i .u64 0))]), (false, [(.v 12)]), (false, [(.v 13)])] [(true, 2), (false, 1)]
  (.lt (.bin .neq (.v 27) (.c (.i .i64 0))) (.ite (.v 28)
  (.call 43 [(false, [(.v 10)]), (false, [(.v 11)])] [(true, 3)]
  (.ret [(true, (vr 0 8)), (true, [(.v 8), (.v 9)]), (true, [(.c (.i .u64 0)), (.v 29), (.v 30), (.v 31)])]))
  (.ret [(true, (vr 0 8)), (true, [(.v 25), (.v 26)]), (true, [(.c (.i .u64 0)), (.c (.b false)), (.c (.i .i64 0)), (.c (.i .u64 0))])]))))
  (.call 42 [(true, [(.v 8), (.v 9)]), (false, [(.c (.i .u64 0))]), (false, [(.v 12)])] [(false, 1), (false, 1)]
  (.lt (.bin .neq (.v 26) (.c (.i .i64 0))) (.ite (.v 27)
  (.call 43 [(false, [(.v 10)]), (false, [(.v 11)])] [(true, 3)]
  (.ret [(true, (vr 0 8)), (true, [(.v 8), (.v 9)]), (true, [(.c (.i .u64 0)), (.v 28), (.v 29), (.v 30)])]))
  (.ret [(true, (vr 0 8)), (true, [(.v 8), (.v 9)]), (true, [(.v 25), (.c (.b false)), (.c (.i .i64 0)), (.c (.i .u64 0))])]))))))))
  (.call 59 [(true, [(.v 0)]), (false, [(.v 2)]), (false, [(.v 11)])] [(true, 11), (false, 1), (false, 1), (false, 1)]
  (.ite (.v 34)
  (.call 64 [(true, (vr 0 8)), (false, [(.v 10)])] [(true, 4)]
  (.call 96 [(true, (vr 27 4)), (true, (vr 35 4))] [(false, 1)]
  (.ite (.v 39)
  (.lt (.bin .neq (.v 10) (.c (.i .i64 2))) (.ite (.v 40)
  (.call 61 [(true, [(.v 0)]), (false, [(.v 32)]), (false, [(.v 33)])] [(true, 1)]
  (.call 62 [(true, (vr 21 11)), (false, [(.v 11)])] [(false, 1)]
  (.lt (.bin .eql (.v 10) (.c (.i .i64 2))) (.ite (.v 43)
  (.call 49 [(true, [(.v 8), (.v 9)]), (false, [(.v 42)]), (false, [(.v 12)]), (false, [(.v 13)])] [(true, 2), (false, 1)]
  (.lt (.bin .neq (.v 46) (.c (.i .i64 0))) (.ite (.v 47)
  (.call 43 [(false, [(.v 10)]), (false, [(.v 11)])] [(true, 3)]
  (.ret [(true, ([(.v 41)] ++ vr 1 7)), (true, [(.v 8), (.v 9)]), (true, [(.c (.i .u64 0)), (.v 48), (.v 49), (.v 50)])]))
  (.ret [(true, ([(.v 41)] ++ vr 1 7)), (true, [(.v 44), (.v 45)]), (true, [(.c (.i .u64 0)), (.c (.b false)), (.c (.i .i64 0)), (.c (.i .u64 0))])]))))
  (.call 42 [(true, [(.v 8), (.v 9)]), (false, [(.v 42)]), (false, [(.v 12)])] [(false, 1), (false, 1)]
  (.lt (.bin .neq (.v 45) (.c (.i .i64 0))) (.ite (.v 46)
  (.call 43 [(false, [(.v 10)]), (false, [(.v 11)])] [(true, 3)]
  (.ret [(true, ([(.v 41)] ++ vr 1 7)), (true, [(.v 8), (.v 9)]), (true, [(.c (.i .u64 0)), (.v 47), (.v 48), (.v 49)])]))
  (.ret [(true, ([(.v 41)] ++ vr 1 7)), (true, [(.v 8), (.v 9)]), (true, [(.v 44), (.c (.b false)), (.c (.i .i64 0)), (.c (.i .u64 0))])]))))))))
  (.ite (.v 31)
  (.call 61 [(true, [(.v 0)]), (false, [(.v 32)]), (false, [(.v 33)])] [(true, 1)]
  (.call 62 [(true, (vr 21 11)), (false, [(.v 11)])] [(false, 1)]
  (.lt (.bin .eql (.v 10) (.c (.i .i64 2))) (.ite (.v 43)
  (.call 49 [(true, [(.v 8), (.v 9)]), (false, [(.v 42)]), (false, [(.v 12)]), (false, [(.v 13)])] [(true, 2), (false, 1)]
  (.lt (.bin .neq (.v 46) (.c (.i .i64 0))) (.ite (.v 47)
  (.call 43 [(false, [(.v 10)]), (false, [(.v 11)])] [(true, 3)]
  (.ret [(true, ([(.v 41)] ++ vr 1 7)), (true, [(.v 8), (.v 9)]), (true, [(.c (.i .u64 0)), (.v 48), (.v 49), (.v 50)])]))
  (.ret [(true, ([(.v 41)] ++ vr 1 7)), (true, [(.v 44), (.v 45)]), (true, [(.c (.i .u64 0)), (.c (.b false)), (.c (.i .i64 0)), (.c (.i .u64 0))])]))))
  (.call 42 [(true, [(.v 8), (.v 9)]), (false, [(.v 42)]), (false, [(.v 12)])] [(false, 1), (false, 1)]
  (.lt (.bin .neq (.v 45) (.c (.i .i64 0))) (.ite (.v 46)
  (.call 43 [(false, [(.v 10)]), (false, [(.v 11)])] [(true, 3)]
  (.ret [(true, ([(.v 41)] ++ vr 1 7)), (true, [(.v 8), (.v 9)]), (true, [(.c (.i .u64 0)), (.v 47), (.v 48), (.v 49)])]))
  (.ret [(true, ([(.v 41)] ++ vr 1 7)), (true, [(.v 8), (.v 9)]), (true, [(.v 44), (.c (.b false)), (.c (.i .i64 0)), (.c (.i .u64 0))])]))))))))
  (.call 64 [(true, (vr 0 8)), (false, [(.v 10)])] [(true, 4)]
  (.call 63 [(true, [(.v 8), (.v 9)]), (false, [(.v 3)]), (false, [(.v 11)]), (true, (vr 41 4))] [(true, 2), (true, 13), (true, 3)]
  (.ite (.v 60)
  (.ite (.v 60)
  (.ret [(true, (vr 0 8)), (true, [(.v 8), (.v 9)]), (true, [(.c (.i .u64 0)), (.v 60), (.v 61), (.v 62)])])
  (.lt (.bin .eql (.v 10) (.c (.i .i64 2))) (.ite (.v 63)
  (.call 49 [(true, [(.v 8), (.v 9)]), (false, [(.c (.i .u64 0))]), (false, [(.v 12)]), (false, [(.v 13)])] [(true, 2), (false, 1)]
  (.lt (.bin .neq (.v 66) (.c (.i .i64 0))) (.ite (.v 67)
  (.call 43 [(false, [(.v 10)]), (false, [(.v 11)])] [(true, 3)]
  (.ret [(true, (vr 0 8)), (true, [(.v 8), (.v 9)]), (true, [(.c (.i .u64 0)), (.v 68), (.v 69), (.v 70)])]))
  (.ret [(true, (vr 0 8)), (true, [(.v 64), (.v 65)]), (true, [(.c (.i .u64 0)), (.c (.b false)), (.c (.i .i64 0)), (.c (.i .u64 0))])]))))
  (.call 42 [(true, [(.v 8), (.v 9)]), (false, [(.c (.i .u64 0))]), (false, [(.v 12)])] [(false, 1), (false, 1)]
  (.lt (.bin .neq (.v 65) (.c (.i .i64 0))) (.ite (.v 66)
  (.call 43 [(false, [(.v 10)]), (false, [(.v 11)])] [(true, 3)]
  (.ret [(true, (vr 0 8)), (true, [(.v 8), (.v 9)]), (true, [(.c (.i .u64 0)), (.v 67), (.v 68), (.v 69)])]))
  (.ret [(true, (vr 0 8)), (true, [(.v 8), (.v 9)]), (true, [(.v 64), (.c (.b false)), (.c (.i .i64 0)), (.c (.i .u64 0))])])))))))
  (.call 26 [(true, (vr 47 13)), (false, [(.v 11)]), (false, [(.v 2)])] [(true, 11)]
  (.call 25 [(true, [(.v 0)]), (true, (vr 63 11)), (false, [(.v 7)])] [(true, 1)]
  (.call 65 [(true, (vr 47 13)), (false, [(.v 11)])] [(false, 1)]
  (.lt (.bin .eql (.v 10) (.c (.i .i64 2))) (.ite (.v 76)
  (.call 49 [(true, [(.v 45), (.v 46)]), (false, [(.v 75)]), (false, [(.v 12)]), (false, [(.v 13)])] [(true, 2), (false, 1)]
  (.lt (.bin .neq (.v 79) (.c (.i .i64 0))) (.ite (.v 80)
  (.call 43 [(false, [(.v 10)]), (false, [(.v 11)])] [(true, 3)]
  (.ret [(true, ([(.v 74)] ++ vr 1 6 ++ [(.c (.i .i64 (-1)))])), (true, [(.v 45), (.v 46)]), (true, [(.c (.i .u64 0)), (.v 81), (.v 82), (.v 83)])]))
  (.ret [(true, ([(.v 74)] ++ vr 1 6 ++ [(.c (.i .i64 (-1)))])), (true, [(.v 77), (.v 78)]), (true, [(.c (.i .u64 0)), (.c (.b false)), (.c (.i .i64 0)), (.c (.i .u64 0))])]))))
  (.call 42 [(true, [(.v 45), (.v 46)]), (false, [(.v 75)]), (false, [(.v 12)])] [(false, 1), (false, 1)]
  (.lt (.bin .neq (.v 78) (.c (.i .i64 0))) (.ite (.v 79)
  (.call 43 [(false, [(.v 10)]), (false, [(.v 11)])] [(true, 3)]
  (.ret [(true, ([(.v 74)] ++ vr 1 6 ++ [(.c (.i .i64 (-1)))])), (true, [(.v 45), (.v 46)]), (true, [(.c (.i .u64 0)), (.v 80), (.v 81), (.v 82)])]))
  (.ret [(true, ([(.v 74)] ++ vr 1 6 ++ [(.c (.i .i64 (-1)))])), (true, [(.v 45), (.v 46)]), (true, [(.v 77), (.c (.b false)), (.c (.i .i64 0)), (.c (.i .u64 0))])])))))))))))))))
  (.call 64 [(true, (vr 0 8)), (false, [(.v 10)])] [(true, 4)]
  (.call 63 [(true, [(.v 8), (.v 9)]), (false, [(.v 3)]), (false, [(.v 11)]), (true, (vr 40 4))] [(true, 2), (true, 13), (true, 3)]
  (.ite (.v 59)
  (.ite (.v 59)
  (.ret [(true, (vr 0 8)), (true, [(.v 8), (.v 9)]), (true, [(.c (.i .u64 0)), (.v 59), (.v 60), (.v 61)])])
  (.lt (.bin .eql (.v 10) (.c (.i .i64 2))) (.ite (.v 62)
  (.call 49 [(true, [(.v 8), (.v 9)]), (false, [(.c (.i .u64 0))]), (false, [(.v 12)]), (false, [(.v 13)])] [(true, 2), (false, 1)]
  (.lt (.bin .neq (.v 65) (.c (.i .i64 0))) (.ite (.v 66)
  (.call 43 [(false, [(.v 10)]), (false, [(.v 11)])] [(true, 3)]
  (.ret [(true, (vr 0 8)), (true, [(.v 8), (.v 9)]), (true, [(.c (.i .u64 0)), (.v 67), (.v 68), (.v 69)])]))
  (.ret [(true, (vr 0 8)), (true, [(.v 63), (.v 64)]), (true, [(.c (.i .u64 0)), (.c (.b false)), (.c (.i .i64 0)), (.c (.i .u64 0))])]))))
  (.call 42 [(true, [(.v 8), (.v 9)]), (false, [(.c (.i .u64 0))]), (false, [(.v 12)])] [(false, 1), (false, 1)]
  (.lt (.bin .neq (.v 64) (.c (.i .i64 0))) (.ite (.v 65)
  (.call 43 [(false, [(.v 10)]), (false, [(.v 11)])] [(true, 3)]
  (.ret [(true, (vr 0 8)), (true, [(.v 8), (.v 9)]), (true, [(.c (.i .u64 0)), (.v 66), (.v 67), (.v 68)])]))
  (.ret [(true, (vr 0 8)), (true, [(.v 8), (.v 9)]), (true, [(.v 63), (.c (.b false)), (.c (.i .i64 0)), (.c (.i .u64 0))])])))))))
  (.call 26 [(true, (vr 46 13)), (false, [(.v 11)]), (false, [(.v 2)])] [(true, 11)]
  (.call 25 [(true, [(.v 0)]), (true, (vr 62 11)), (false, [(.v 7)])] [(true, 1)]
  (.call 65 [(true, (vr 46 13)), (false, [(.v 11)])] [(false, 1)]
  (.lt (.bin .eql (.v 10) (.c (.i .i64 2))) (.ite (.v 75)
  (.call 49 [(true, [(.v 44), (.v 45)]), (false, [(.v 74)]), (false, [(.v 12)]), (false, [(.v 13)])] [(true, 2), (false, 1)]
  (.lt (.bin .neq (.v 78) (.c (.i .i64 0))) (.ite (.v 79)
  (.call 43 [(false, [(.v 10)]), (false, [(.v 11)])] [(true, 3)]
  (.ret [(true, ([(.v 73)] ++ vr 1 6 ++ [(.c (.i .i64 (-1)))])), (true, [(.v 44), (.v 45)]), (true, [(.c (.i .u64 0)), (.v 80), (.v 81), (.v 82)])]))
  (.ret [(true, ([(.v 73)] ++ vr 1 6 ++ [(.c (.i .i64 (-1)))])), (true, [(.v 76), (.v 77)]), (true, [(.c (.i .u64 0)), (.c (.b false)), (.c (.i .i64 0)), (.c (.i .u64 0))])]))))
  (.call 42 [(true, [(.v 44), (.v 45)]), (false, [(.v 74)]), (false, [(.v 12)])] [(false, 1), (false, 1)]
  (.lt (.bin .neq (.v 77) (.c (.i .i64 0))) (.ite (.v 78)
  (.call 43 [(false, [(.v 10)]), (false, [(.v 11)])] [(true, 3)]
  (.ret [(true, ([(.v 73)] ++ vr 1 6 ++ [(.c (.i .i64 (-1)))])), (true, [(.v 44), (.v 45)]), (true, [(.c (.i .u64 0)), (.v 79), (.v 80), (.v 81)])]))
  (.ret [(true, ([(.v 73)] ++ vr 1 6 ++ [(.c (.i .i64 (-1)))])), (true, [(.v 44), (.v 45)]), (true, [(.v 76), (.c (.b false)), (.c (.i .i64 0)), (.c (.i .u64 0))])])))))))))))))))
  (.call 64 [(true, (vr 0 8)), (false, [(.v 10)])] [(true, 4)]
  (.call 63 [(true, [(.v 8), (.v 9)]), (false, [(.v 3)]), (false, [(.v 11)]), (true, (vr 35 4))] [(true, 2), (true, 13), (true, 3)]
  (.ite (.v 54)
  (.ite (.v 54)
  (.ret [(true, (vr 0 8)), (true, [(.v 8), (.v 9)]), (true, [(.c (.i .u64 0)), (.v 54), (.v 55), (.v 56)])])
  (.lt (.bin .eql (.v 10) (.c (.i .i64 2))) (.ite (.v 57)
  (.call 49 [(true, [(.v 8), (.v 9)]), (false, [(.c (.i .u64 0))]), (false, [(.v 12)]), (false, [(.v 13)])] [(true, 2), (false, 1)]
  (.lt (.bin .neq (.v 60) (.c (.i .i64 0))) (.ite (.v 61)
  (.call 43 [(false, [(.v 10)]), (false, [(.v 11)])] [(true, 3)]
  (.ret [(true, (vr 0 8)), (true, [(.v 8), (.v 9)]), (true, [(.c (.i .u64 0)), (.v 62), (.v 63), (.v 64)])]))
  (.ret [(true, (vr 0 8)), (true, [(.v 58), (.v 59)]), (true, [(.c (.i .u64 0)), (.c (.b false)), (.c (.i .i64 0)), (.c (.i .u64 0))])]))))
  (.call 42 [(true, [(.v 8), (.v 9)]), (false, [(.c (.i .u64 0))]), (false, [(.v 12)])] [(false, 1), (false, 1)]
  (.lt (.bin .neq (.v 59) (.c (.i .i64 0))) (.ite (.v 60)
  (.call 43 [(false, [(.v 10)]), (false, [(.v 11)])] [(true, 3)]
  (.ret [(true, (vr 0 8)), (true, [(.v 8), (.v 9)]), (true, [(.c (.i .u64 0)), (.v 61), (.v 62), (.v 63)])]))
  (.ret [(true, (vr 0 8)), (true, [(.v 8), (.v 9)]), (true, [(.v 58), (.c (.b false)), (.c (.i .i64 0)), (.c (.i .u64 0))])])))))))
  (.call 26 [(true, (vr 41 13)), (false, [(.v 11)]), (false, [(.v 2)])] [(true, 11)]
  (.call 25 [(true, [(.v 0)]), (true, (vr 57 11)), (false, [(.v 7)])] [(true, 1)]
  (.call 65 [(true, (vr 41 13)), (false, [(.v 11)])] [(false, 1)]
  (.lt (.bin .eql (.v 10) (.c (.i .i64 2))) (.ite (.v 70)
  (.call 49 [(true, [(.v 39), (.v 40)]), (false, [(.v 69)]), (false, [(.v 12)]), (false, [(.v 13)])] [(true, 2), (false, 1)]
  (.lt (.bin .neq (.v 73) (.c (.i .i64 0))) (.ite (.v 74)
  (.call 43 [(false, [(.v 10)]), (false, [(.v 11)])] [(true, 3)]
  (.ret [(true, ([(.v 68)] ++ vr 1 6 ++ [(.c (.i .i64 (-1)))])), (true, [(.v 39), (.v 40)]), (true, [(.c (.i .u64 0)), (.v 75), (.v 76), (.v 77)])]))
  (.ret [(true, ([(.v 68)] ++ vr 1 6 ++ [(.c (.i .i64 (-1)))])), (true, [(.v 71), (.v 72)]), (true, [(.c (.i .u64 0)), (.c (.b false)), (.c (.i .i64 0)), (.c (.i .u64 0))])]))))
  (.call 42 [(true, [(.v 39), (.v 40)]), (false, [(.v 69)]), (false, [(.v 12)])] [(false, 1), (false, 1)]
  (.lt (.bin .neq (.v 72) (.c (.i .i64 0))) (.ite (.v 73)
  (.call 43 [(false, [(.v 10)]), (false, [(.v 11)])] [(true, 3)]
  (.ret [(true, ([(.v 68)] ++ vr 1 6 ++ [(.c (.i .i64 (-1)))])), (true, [(.v 39), (.v 40)]), (true, [(.c (.i .u64 0)), (.v 74), (.v 75), (.v 76)])]))
  (.ret [(true, ([(.v 68)] ++ vr 1 6 ++ [(.c (.i .i64 (-1)))])), (true, [(.v 39), (.v 40)]), (true, [(.v 71), (.c (.b false)), (.c (.i .i64 0)), (.c (.i .u64 0))])]))))))))))))))))))))))))
theorem hart_Access_c : compile envIrH 3000 11 = .ok hart_Access_ir := by kernel_rfl
theorem hart_Access_p : paramShape Tryz.prog 11 = some [(true, 8), (true, 2), (false, 1), (false, 1), (false, 1), (false, 1)] := by kernel_rfl
def cause_Odd_ir : IR :=
  (.chk (.rng (.v 0) 3) (.ret [(true, [(.c (.b true)), (selE (.v 0) 0 [(.c (.i .i64 0)), (.c (.i .i64 4)), (.c (.i .i64 6))]), (.v 1)])]))
theorem cause_Odd_c : compile envIrH 3000 29 = .ok cause_Odd_ir := by kernel_rfl
theorem cause_Odd_p : paramShape Tryz.prog 29 = some [(false, 1), (false, 1)] := by kernel_rfl
def hart_Way_ir : IR :=
  (.ret [(true, [(.v 8), (.v 4), (.v 5), (.v 6)])])
theorem hart_Way_c : compile envIrH 3000 64 = .ok hart_Way_ir := by kernel_rfl
theorem hart_Way_p : paramShape Tryz.prog 64 = some [(true, 8), (false, 1)] := by kernel_rfl
end Go.Proofs.YtobdkhjaipoliaaGreatDoor.Sx
