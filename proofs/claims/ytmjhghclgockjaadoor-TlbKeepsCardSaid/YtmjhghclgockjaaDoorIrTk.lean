/-
  IRs of functions, printed by a program of mine (wip/tools/mkir.py, ev.run.lean); each is checked by the kernel against the executor.
-/
import Derived.Test.YtmjhghclgockjaaDoorRun
import Derived.Test.YtmjhghclgockjaaDoorProg
namespace Go.Proofs.YtmjhghclgockjaaDoor.Sx
open Go
set_option maxRecDepth 100000
def inlenvIrTk : List FuncId :=
  40 ::
  63 ::
  41 ::
  19 ::
  []
noncomputable def envIrTk : Env := { P := Tryd.prog, G := gAll, inl := inlenvIrTk, unr := [], ded := true }
/-- atlas/atlaslaw14.TlbKeeps -/
def atlaslaw14_TlbKeeps_ir : IR :=
  (.call 9 [] [(false, 1)]
  (.lt (.un .not (.v 14)) (.ite (.v 15)
  (.call 9 [] [(false, 1)]
  (.ret [(false, [(.v 16)])]))
  (.call 10 [(true, [(.v 0)])] [(false, 1)]
  (.lt (.un .not (.v 16)) (.ite (.v 17)
  (.call 9 [] [(false, 1)]
  (.ret [(false, [(.v 18)])]))
  (.call 11 [(true, (vr 1 11))] [(false, 1)]
  (.lt (.un .not (.v 18)) (.ite (.v 19)
  (.call 9 [] [(false, 1)]
  (.ret [(false, [(.v 20)])]))
  (.lt (.un .not (.v 1)) (.ite (.v 20)
  (.call 9 [] [(false, 1)]
  (.ret [(false, [(.v 21)])]))
  (.chk (.room (.len (.app 45 (.c (.sl 45 [])) (.v 0))) 233) (.call 13 [(true, [(.app 45 (.c (.sl 45 [])) (.v 0))]), (true, (vr 1 11)), (false, [(.v 12)])] [(true, 1)]
  (.lt (.cv .i64 (.v 13)) (.call 23 [(true, [(.app 45 (.c (.sl 45 [])) (.v 0))]), (false, [(.v 22)]), (false, [(.c (.i .i64 1))])] [(true, 1), (false, 1)]
  (.lt (.len (.app 45 (.c (.sl 45 [])) (.v 0))) (.lt (.bin .gtr (.v 25) (.c (.i .i64 0))) (.ite (.v 26)
  (.lt (.cv .i64 (.v 13)) (.lt (.len (.app 45 (.c (.sl 45 [])) (.v 0))) (.lt (.bin .rem (.v 27) (.v 28)) (.call 25 [(true, [(.app 45 (.c (.sl 45 [])) (.v 0))]), (false, [(.v 29)]), (false, [(.c (.i .i64 2))])] [(true, 1)]
  (.lt (.len (.app 45 (.c (.sl 45 [])) (.v 0))) (.loop [(.c (.i .i64 0)), (.c (.sl 0 []))]
  (.lt (.bin .lss (.v 32) (.v 31)) (.ite (.v 34)
  (.chk (.inb (.app 45 (.c (.sl 45 [])) (.v 0)) (.v 32) 45) (.chk (.room (.len (.app 11 (.v 33) (.cat (.one [(.idx (.app 45 (.c (.sl 45 [])) (.v 0)) (.v 32) 0), (.idx (.app 45 (.c (.sl 45 [])) (.v 0)) (.v 32) 1), (.idx (.app 45 (.c (.sl 45 [])) (.v 0)) (.v 32) 2), (.idx (.app 45 (.c (.sl 45 [])) (.v 0)) (.v 32) 3), (.idx (.app 45 (.c (.sl 45 [])) (.v 0)) (.v 32) 4), (.idx (.app 45 (.c (.sl 45 [])) (.v 0)) (.v 32) 5), (.idx (.app 45 (.c (.sl 45 [])) (.v 0)) (.v 32) 6), (.idx (.app 45 (.c (.sl 45 [])) (.v 0)) (.v 32) 7), (.idx (.app 45 (.c (.sl 45 [])) (.v 0)) (.v 32) 8), (.idx (.app 45 (.c (.sl 45 [])) (.v 0)) (.v 32) 9), (.idx (.app 45 (.c (.sl 45 [])) (.v 0)) (.v 32) 10)]) (.cat (.one [(.idx (.app 45 (.c (.sl 45 [])) (.v 0)) (.v 32) 11), (.idx (.app 45 (.c (.sl 45 [])) (.v 0)) (.v 32) 12), (.idx (.app 45 (.c (.sl 45 [])) (.v 0)) (.v 32) 13), (.idx (.app 45 (.c (.sl 45 [])) (.v 0)) (.v 32) 14), (.idx (.app 45 (.c (.sl 45 [])) (.v 0)) (.v 32) 15), (.idx (.app 45 (.c (.sl 45 [])) (.v 0)) (.v 32) 16), (.idx (.app 45 (.c (.sl 45 [])) (.v 0)) (.v 32) 17), (.idx (.app 45 (.c (.sl 45 [])) (.v 0)) (.v 32) 18), (.idx (.app 45 (.c (.sl 45 [])) (.v 0)) (.v 32) 19), (.idx (.app 45 (.c (.sl 45 [])) (.v 0)) (.v 32) 20), (.idx (.app 45 (.c (.sl 45 [])) (.v 0)) (.v 32) 21)]) (.cat (.one [(.idx (.app 45 (.c (.sl 45 [])) (.v 0)) (.v 32) 22), (.idx (.app 45 (.c (.sl 45 [])) (.v 0)) (.v 32) 23), (.idx (.app 45 (.c (.sl 45 [])) (.v 0)) (.v 32) 24), (.idx (.app 45 (.c (.sl 45 [])) (.v 0)) (.v 32) 25), (.idx (.app 45 (.c (.sl 45 [])) (.v 0)) (.v 32) 26), (.idx (.app 45 (.c (.sl 45 [])) (.v 0)) (.v 32) 27), (.idx (.app 45 (.c (.sl 45 [])) (.v 0)) (.v 32) 28), (.idx (.app 45 (.c (.sl 45 [])) (.v 0)) (.v 32) 29), (.idx (.app 45 (.c (.sl 45 [])) (.v 0)) (.v 32) 30), (.idx (.app 45 (.c (.sl 45 [])) (.v 0)) (.v 32) 31), (.idx (.app 45 (.c (.sl 45 [])) (.v 0)) (.v 32) 32)]) (.one [(.idx (.app 45 (.c (.sl 45 [])) (.v 0)) (.v 32) 33), (.idx (.app 45 (.c (.sl 45 [])) (.v 0)) (.v 32) 34), (.idx (.app 45 (.c (.sl 45 [])) (.v 0)) (.v 32) 35), (.idx (.app 45 (.c (.sl 45 [])) (.v 0)) (.v 32) 36), (.idx (.app 45 (.c (.sl 45 [])) (.v 0)) (.v 32) 37), (.idx (.app 45 (.c (.sl 45 [])) (.v 0)) (.v 32) 38), (.idx (.app 45 (.c (.sl 45 [])) (.v 0)) (.v 32) 39), (.idx (.app 45 (.c (.sl 45 [])) (.v 0)) (.v 32) 40), (.idx (.app 45 (.c (.sl 45 [])) (.v 0)) (.v 32) 41), (.idx (.app 45 (.c (.sl 45 [])) (.v 0)) (.v 32) 42), (.idx (.app 45 (.c (.sl 45 [])) (.v 0)) (.v 32) 43)])))))) 57) (.lt (.bin .add (.v 32) (.c (.i .i64 1))) (.cont 0 [(.v 35), (.app 11 (.v 33) (.cat (.one [(.idx (.app 45 (.c (.sl 45 [])) (.v 0)) (.v 32) 0), (.idx (.app 45 (.c (.sl 45 [])) (.v 0)) (.v 32) 1), (.idx (.app 45 (.c (.sl 45 [])) (.v 0)) (.v 32) 2), (.idx (.app 45 (.c (.sl 45 [])) (.v 0)) (.v 32) 3), (.idx (.app 45 (.c (.sl 45 [])) (.v 0)) (.v 32) 4), (.idx (.app 45 (.c (.sl 45 [])) (.v 0)) (.v 32) 5), (.idx (.app 45 (.c (.sl 45 [])) (.v 0)) (.v 32) 6), (.idx (.app 45 (.c (.sl 45 [])) (.v 0)) (.v 32) 7), (.idx (.app 45 (.c (.sl 45 [])) (.v 0)) (.v 32) 8), (.idx (.app 45 (.c (.sl 45 [])) (.v 0)) (.v 32) 9), (.idx (.app 45 (.c (.sl 45 [])) (.v 0)) (.v 32) 10)]) (.cat (.one [(.idx (.app 45 (.c (.sl 45 [])) (.v 0)) (.v 32) 11), (.idx (.app 45 (.c (.sl 45 [])) (.v 0)) (.v 32) 12), (.idx (.app 45 (.c (.sl 45 [])) (.v 0)) (.v 32) 13), (.idx (.app 45 (.c (.sl 45 [])) (.v 0)) (.v 32) 14), (.idx (.app 45 (.c (.sl 45 [])) (.v 0)) (.v 32) 15), (.idx (.app 45 (.c (.sl 45 [])) (.v 0)) (.v 32) 16), (.idx (.app 45 (.c (.sl 45 [])) (.v 0)) (.v 32) 17), (.idx (.app 45 (.c (.sl 45 [])) (.v 0)) (.v 32) 18), (.idx (.app 45 (.c (.sl 45 [])) (.v 0)) (.v 32) 19), (.idx (.app 45 (.c (.sl 45 [])) (.v 0)) (.v 32) 20), (.idx (.app 45 (.c (.sl 45 [])) (.v 0)) (.v 32) 21)]) (.cat (.one [(.idx (.app 45 (.c (.sl 45 [])) (.v 0)) (.v 32) 22), (.idx (.app 45 (.c (.sl 45 [])) (.v 0)) (.v 32) 23), (.idx (.app 45 (.c (.sl 45 [])) (.v 0)) (.v 32) 24), (.idx (.app 45 (.c (.sl 45 [])) (.v 0)) (.v 32) 25), (.idx (.app 45 (.c (.sl 45 [])) (.v 0)) (.v 32) 26), (.idx (.app 45 (.c (.sl 45 [])) (.v 0)) (.v 32) 27), (.idx (.app 45 (.c (.sl 45 [])) (.v 0)) (.v 32) 28), (.idx (.app 45 (.c (.sl 45 [])) (.v 0)) (.v 32) 29), (.idx (.app 45 (.c (.sl 45 [])) (.v 0)) (.v 32) 30), (.idx (.app 45 (.c (.sl 45 [])) (.v 0)) (.v 32) 31), (.idx (.app 45 (.c (.sl 45 [])) (.v 0)) (.v 32) 32)]) (.one [(.idx (.app 45 (.c (.sl 45 [])) (.v 0)) (.v 32) 33), (.idx (.app 45 (.c (.sl 45 [])) (.v 0)) (.v 32) 34), (.idx (.app 45 (.c (.sl 45 [])) (.v 0)) (.v 32) 35), (.idx (.app 45 (.c (.sl 45 [])) (.v 0)) (.v 32) 36), (.idx (.app 45 (.c (.sl 45 [])) (.v 0)) (.v 32) 37), (.idx (.app 45 (.c (.sl 45 [])) (.v 0)) (.v 32) 38), (.idx (.app 45 (.c (.sl 45 [])) (.v 0)) (.v 32) 39), (.idx (.app 45 (.c (.sl 45 [])) (.v 0)) (.v 32) 40), (.idx (.app 45 (.c (.sl 45 [])) (.v 0)) (.v 32) 41), (.idx (.app 45 (.c (.sl 45 [])) (.v 0)) (.v 32) 42), (.idx (.app 45 (.c (.sl 45 [])) (.v 0)) (.v 32) 43)])))))]))))
  (.loop [(.c (.i .i64 0)), (.c (.i .i64 0))]
  (.lt (.bin .lss (.v 36) (.len (.v 33))) (.ite (.v 37)
  (.chk (.inb (.v 33) (.v 36) 11) (.chk (.inb (.v 33) (.v 36) 11) (.lt (.un .not (.idx (.v 33) (.v 36) 0)) (.ite (.v 38)
  (.lt (.bin .eql (.v 36) (.c (.i .i64 (-1)))) (.ite (.v 39)
  (.loop [(.c (.i .i64 0)), (.v 33)]
  (.lt (.bin .lss (.v 40) (.len (.v 41))) (.ite (.v 42)
  (.chk (.inb (.v 41) (.v 40) 11) (.chk (.inb (.v 41) (.v 40) 11) (.lt (.bin .add (.v 40) (.c (.i .i64 1))) (.cont 2 [(.v 43), (.put (.v 41) (.v 40) 0 [(.c (.b false)), (.c (.i .u64 0)), (.c (.b false)), (.c (.i .i64 0)), (.c (.i .u64 0)), (.c (.i .u64 0)), (.c (.b false)), (.c (.b false)), (.c (.b false)), (.c (.b false)), (.c (.b false))])]))))
  (.call 21 [(true, [(.app 45 (.c (.sl 45 [])) (.v 0))]), (true, [(.v 0)])] [(false, 1)]
  (.ret [(false, [(.v 43)])])))))
  (.lt (.bin .add (.v 36) (.c (.i .i64 1))) (.loop [(.v 36), (.v 40), (.v 33)]
  (.lt (.bin .lss (.v 42) (.len (.v 43))) (.ite (.v 44)
  (.chk (.inb (.v 43) (.v 42) 11) (.chk (.inb (.v 43) (.v 42) 11) (.lt (.un .not (.idx (.v 43) (.v 42) 0)) (.lt (.un .not (.v 45)) (.ite (.v 46)
  (.chk (.inb (.v 43) (.v 41) 11) (.chk (.inb (.v 43) (.v 41) 11) (.lt (.bin .add (.v 41) (.c (.i .i64 1))) (.lt (.bin .add (.v 42) (.c (.i .i64 1))) (.cont 2 [(.v 47), (.v 48), (.put (.v 43) (.v 41) 0 (idr (.v 43) (.v 42) 0 11))])))))
  (.lt (.bin .add (.v 42) (.c (.i .i64 1))) (.cont 2 [(.v 41), (.v 47), (.v 43)])))))))
  (.chk (.bnd (.v 41) (.len (.v 43)) (.len (.v 43))) (.chk (.bnd (.c (.i .i64 0)) (.bin .sub (.len (.v 43)) (.v 41)) (.len (.v 43))) (.chk (.room (.len (.app 11 (.sub (.v 43) (.c (.i .i64 0)) (.v 41)) (.mk (.bin .sub (.len (.v 43)) (.v 41)) [(.c (.b false)), (.c (.i .u64 0)), (.c (.b false)), (.c (.i .i64 0)), (.c (.i .u64 0)), (.c (.i .u64 0)), (.c (.b false)), (.c (.b false)), (.c (.b false)), (.c (.b false)), (.c (.b false))]))) 0) (.chk (.bnd (.c (.i .i64 0)) (.v 41) (.len (.app 11 (.sub (.v 43) (.c (.i .i64 0)) (.v 41)) (.mk (.bin .sub (.len (.v 43)) (.v 41)) [(.c (.b false)), (.c (.i .u64 0)), (.c (.b false)), (.c (.i .i64 0)), (.c (.i .u64 0)), (.c (.i .u64 0)), (.c (.b false)), (.c (.b false)), (.c (.b false)), (.c (.b false)), (.c (.b false))])))) (.loop [(.c (.i .i64 0)), (.sub (.app 11 (.sub (.v 43) (.c (.i .i64 0)) (.v 41)) (.mk (.bin .sub (.len (.v 43)) (.v 41)) [(.c (.b false)), (.c (.i .u64 0)), (.c (.b false)), (.c (.i .i64 0)), (.c (.i .u64 0)), (.c (.i .u64 0)), (.c (.b false)), (.c (.b false)), (.c (.b false)), (.c (.b false)), (.c (.b false))])) (.c (.i .i64 0)) (.v 41))]
  (.lt (.bin .lss (.v 45) (.len (.v 46))) (.ite (.v 47)
  (.chk (.inb (.v 46) (.v 45) 11) (.chk (.inb (.v 46) (.v 45) 11) (.lt (.bin .add (.v 45) (.c (.i .i64 1))) (.cont 3 [(.v 48), (.put (.v 46) (.v 45) 0 [(.c (.b false)), (.c (.i .u64 0)), (.c (.b false)), (.c (.i .i64 0)), (.c (.i .u64 0)), (.c (.i .u64 0)), (.c (.b false)), (.c (.b false)), (.c (.b false)), (.c (.b false)), (.c (.b false))])]))))
  (.call 21 [(true, [(.app 45 (.c (.sl 45 [])) (.v 0))]), (true, [(.v 0)])] [(false, 1)]
  (.ret [(false, [(.v 48)])])))))))))))))))
  (.lt (.bin .add (.v 36) (.c (.i .i64 1))) (.cont 1 [(.v 35), (.v 39)]))))))
  (.loop [(.c (.i .i64 0)), (.v 33)]
  (.lt (.bin .lss (.v 38) (.len (.v 39))) (.ite (.v 40)
  (.chk (.inb (.v 39) (.v 38) 11) (.chk (.inb (.v 39) (.v 38) 11) (.lt (.bin .add (.v 38) (.c (.i .i64 1))) (.cont 2 [(.v 41), (.put (.v 39) (.v 38) 0 [(.c (.b false)), (.c (.i .u64 0)), (.c (.b false)), (.c (.i .i64 0)), (.c (.i .u64 0)), (.c (.i .u64 0)), (.c (.b false)), (.c (.b false)), (.c (.b false)), (.c (.b false)), (.c (.b false))])]))))
  (.call 21 [(true, [(.app 45 (.c (.sl 45 [])) (.v 0))]), (true, [(.v 0)])] [(false, 1)]
  (.ret [(false, [(.v 41)])]))))))))))))))))
  (.lt (.len (.app 45 (.c (.sl 45 [])) (.v 0))) (.loop [(.c (.i .i64 0)), (.c (.sl 0 []))]
  (.lt (.bin .lss (.v 28) (.v 27)) (.ite (.v 30)
  (.chk (.inb (.app 45 (.c (.sl 45 [])) (.v 0)) (.v 28) 45) (.chk (.room (.len (.app 11 (.v 29) (.cat (.one [(.idx (.app 45 (.c (.sl 45 [])) (.v 0)) (.v 28) 0), (.idx (.app 45 (.c (.sl 45 [])) (.v 0)) (.v 28) 1), (.idx (.app 45 (.c (.sl 45 [])) (.v 0)) (.v 28) 2), (.idx (.app 45 (.c (.sl 45 [])) (.v 0)) (.v 28) 3), (.idx (.app 45 (.c (.sl 45 [])) (.v 0)) (.v 28) 4), (.idx (.app 45 (.c (.sl 45 [])) (.v 0)) (.v 28) 5), (.idx (.app 45 (.c (.sl 45 [])) (.v 0)) (.v 28) 6), (.idx (.app 45 (.c (.sl 45 [])) (.v 0)) (.v 28) 7), (.idx (.app 45 (.c (.sl 45 [])) (.v 0)) (.v 28) 8), (.idx (.app 45 (.c (.sl 45 [])) (.v 0)) (.v 28) 9), (.idx (.app 45 (.c (.sl 45 [])) (.v 0)) (.v 28) 10)]) (.cat (.one [(.idx (.app 45 (.c (.sl 45 [])) (.v 0)) (.v 28) 11), (.idx (.app 45 (.c (.sl 45 [])) (.v 0)) (.v 28) 12), (.idx (.app 45 (.c (.sl 45 [])) (.v 0)) (.v 28) 13), (.idx (.app 45 (.c (.sl 45 [])) (.v 0)) (.v 28) 14), (.idx (.app 45 (.c (.sl 45 [])) (.v 0)) (.v 28) 15), (.idx (.app 45 (.c (.sl 45 [])) (.v 0)) (.v 28) 16), (.idx (.app 45 (.c (.sl 45 [])) (.v 0)) (.v 28) 17), (.idx (.app 45 (.c (.sl 45 [])) (.v 0)) (.v 28) 18), (.idx (.app 45 (.c (.sl 45 [])) (.v 0)) (.v 28) 19), (.idx (.app 45 (.c (.sl 45 [])) (.v 0)) (.v 28) 20), (.idx (.app 45 (.c (.sl 45 [])) (.v 0)) (.v 28) 21)]) (.cat (.one [(.idx (.app 45 (.c (.sl 45 [])) (.v 0)) (.v 28) 22), (.idx (.app 45 (.c (.sl 45 [])) (.v 0)) (.v 28) 23), (.idx (.app 45 (.c (.sl 45 [])) (.v 0)) (.v 28) 24), (.idx (.app 45 (.c (.sl 45 [])) (.v 0)) (.v 28) 25), (.idx (.app 45 (.c (.sl 45 [])) (.v 0)) (.v 28) 26), (.idx (.app 45 (.c (.sl 45 [])) (.v 0)) (.v 28) 27), (.idx (.app 45 (.c (.sl 45 [])) (.v 0)) (.v 28) 28), (.idx (.app 45 (.c (.sl 45 [])) (.v 0)) (.v 28) 29), (.idx (.app 45 (.c (.sl 45 [])) (.v 0)) (.v 28) 30), (.idx (.app 45 (.c (.sl 45 [])) (.v 0)) (.v 28) 31), (.idx (.app 45 (.c (.sl 45 [])) (.v 0)) (.v 28) 32)]) (.one [(.idx (.app 45 (.c (.sl 45 [])) (.v 0)) (.v 28) 33), (.idx (.app 45 (.c (.sl 45 [])) (.v 0)) (.v 28) 34), (.idx (.app 45 (.c (.sl 45 [])) (.v 0)) (.v 28) 35), (.idx (.app 45 (.c (.sl 45 [])) (.v 0)) (.v 28) 36), (.idx (.app 45 (.c (.sl 45 [])) (.v 0)) (.v 28) 37), (.idx (.app 45 (.c (.sl 45 [])) (.v 0)) (.v 28) 38), (.idx (.app 45 (.c (.sl 45 [])) (.v 0)) (.v 28) 39), (.idx (.app 45 (.c (.sl 45 [])) (.v 0)) (.v 28) 40), (.idx (.app 45 (.c (.sl 45 [])) (.v 0)) (.v 28) 41), (.idx (.app 45 (.c (.sl 45 [])) (.v 0)) (.v 28) 42), (.idx (.app 45 (.c (.sl 45 [])) (.v 0)) (.v 28) 43)])))))) 57) (.lt (.bin .add (.v 28) (.c (.i .i64 1))) (.cont 0 [(.v 31), (.app 11 (.v 29) (.cat (.one [(.idx (.app 45 (.c (.sl 45 [])) (.v 0)) (.v 28) 0), (.idx (.app 45 (.c (.sl 45 [])) (.v 0)) (.v 28) 1), (.idx (.app 45 (.c (.sl 45 [])) (.v 0)) (.v 28) 2), (.idx (.app 45 (.c (.sl 45 [])) (.v 0)) (.v 28) 3), (.idx (.app 45 (.c (.sl 45 [])) (.v 0)) (.v 28) 4), (.idx (.app 45 (.c (.sl 45 [])) (.v 0)) (.v 28) 5), (.idx (.app 45 (.c (.sl 45 [])) (.v 0)) (.v 28) 6), (.idx (.app 45 (.c (.sl 45 [])) (.v 0)) (.v 28) 7), (.idx (.app 45 (.c (.sl 45 [])) (.v 0)) (.v 28) 8), (.idx (.app 45 (.c (.sl 45 [])) (.v 0)) (.v 28) 9), (.idx (.app 45 (.c (.sl 45 [])) (.v 0)) (.v 28) 10)]) (.cat (.one [(.idx (.app 45 (.c (.sl 45 [])) (.v 0)) (.v 28) 11), (.idx (.app 45 (.c (.sl 45 [])) (.v 0)) (.v 28) 12), (.idx (.app 45 (.c (.sl 45 [])) (.v 0)) (.v 28) 13), (.idx (.app 45 (.c (.sl 45 [])) (.v 0)) (.v 28) 14), (.idx (.app 45 (.c (.sl 45 [])) (.v 0)) (.v 28) 15), (.idx (.app 45 (.c (.sl 45 [])) (.v 0)) (.v 28) 16), (.idx (.app 45 (.c (.sl 45 [])) (.v 0)) (.v 28) 17), (.idx (.app 45 (.c (.sl 45 [])) (.v 0)) (.v 28) 18), (.idx (.app 45 (.c (.sl 45 [])) (.v 0)) (.v 28) 19), (.idx (.app 45 (.c (.sl 45 [])) (.v 0)) (.v 28) 20), (.idx (.app 45 (.c (.sl 45 [])) (.v 0)) (.v 28) 21)]) (.cat (.one [(.idx (.app 45 (.c (.sl 45 [])) (.v 0)) (.v 28) 22), (.idx (.app 45 (.c (.sl 45 [])) (.v 0)) (.v 28) 23), (.idx (.app 45 (.c (.sl 45 [])) (.v 0)) (.v 28) 24), (.idx (.app 45 (.c (.sl 45 [])) (.v 0)) (.v 28) 25), (.idx (.app 45 (.c (.sl 45 [])) (.v 0)) (.v 28) 26), (.idx (.app 45 (.c (.sl 45 [])) (.v 0)) (.v 28) 27), (.idx (.app 45 (.c (.sl 45 [])) (.v 0)) (.v 28) 28), (.idx (.app 45 (.c (.sl 45 [])) (.v 0)) (.v 28) 29), (.idx (.app 45 (.c (.sl 45 [])) (.v 0)) (.v 28) 30), (.idx (.app 45 (.c (.sl 45 [])) (.v 0)) (.v 28) 31), (.idx (.app 45 (.c (.sl 45 [])) (.v 0)) (.v 28) 32)]) (.one [(.idx (.app 45 (.c (.sl 45 [])) (.v 0)) (.v 28) 33), (.idx (.app 45 (.c (.sl 45 [])) (.v 0)) (.v 28) 34), (.idx (.app 45 (.c (.sl 45 [])) (.v 0)) (.v 28) 35), (.idx (.app 45 (.c (.sl 45 [])) (.v 0)) (.v 28) 36), (.idx (.app 45 (.c (.sl 45 [])) (.v 0)) (.v 28) 37), (.idx (.app 45 (.c (.sl 45 [])) (.v 0)) (.v 28) 38), (.idx (.app 45 (.c (.sl 45 [])) (.v 0)) (.v 28) 39), (.idx (.app 45 (.c (.sl 45 [])) (.v 0)) (.v 28) 40), (.idx (.app 45 (.c (.sl 45 [])) (.v 0)) (.v 28) 41), (.idx (.app 45 (.c (.sl 45 [])) (.v 0)) (.v 28) 42), (.idx (.app 45 (.c (.sl 45 [])) (.v 0)) (.v 28) 43)])))))]))))
  (.loop [(.c (.i .i64 0)), (.c (.i .i64 0))]
  (.lt (.bin .lss (.v 32) (.len (.v 29))) (.ite (.v 33)
  (.chk (.inb (.v 29) (.v 32) 11) (.chk (.inb (.v 29) (.v 32) 11) (.lt (.un .not (.idx (.v 29) (.v 32) 0)) (.ite (.v 34)
  (.lt (.bin .eql (.v 32) (.c (.i .i64 (-1)))) (.ite (.v 35)
  (.loop [(.c (.i .i64 0)), (.v 29)]
  (.lt (.bin .lss (.v 36) (.len (.v 37))) (.ite (.v 38)
  (.chk (.inb (.v 37) (.v 36) 11) (.chk (.inb (.v 37) (.v 36) 11) (.lt (.bin .add (.v 36) (.c (.i .i64 1))) (.cont 2 [(.v 39), (.put (.v 37) (.v 36) 0 [(.c (.b false)), (.c (.i .u64 0)), (.c (.b false)), (.c (.i .i64 0)), (.c (.i .u64 0)), (.c (.i .u64 0)), (.c (.b false)), (.c (.b false)), (.c (.b false)), (.c (.b false)), (.c (.b false))])]))))
  (.call 21 [(true, [(.app 45 (.c (.sl 45 [])) (.v 0))]), (true, [(.v 0)])] [(false, 1)]
  (.ret [(false, [(.v 39)])])))))
  (.lt (.bin .add (.v 32) (.c (.i .i64 1))) (.loop [(.v 32), (.v 36), (.v 29)]
  (.lt (.bin .lss (.v 38) (.len (.v 39))) (.ite (.v 40)
  (.chk (.inb (.v 39) (.v 38) 11) (.chk (.inb (.v 39) (.v 38) 11) (.lt (.un .not (.idx (.v 39) (.v 38) 0)) (.lt (.un .not (.v 41)) (.ite (.v 42)
  (.chk (.inb (.v 39) (.v 37) 11) (.chk (.inb (.v 39) (.v 37) 11) (.lt (.bin .add (.v 37) (.c (.i .i64 1))) (.lt (.bin .add (.v 38) (.c (.i .i64 1))) (.cont 2 [(.v 43), (.v 44), (.put (.v 39) (.v 37) 0 (idr (.v 39) (.v 38) 0 11))])))))
  (.lt (.bin .add (.v 38) (.c (.i .i64 1))) (.cont 2 [(.v 37), (.v 43), (.v 39)])))))))
  (.chk (.bnd (.v 37) (.len (.v 39)) (.len (.v 39))) (.chk (.bnd (.c (.i .i64 0)) (.bin .sub (.len (.v 39)) (.v 37)) (.len (.v 39))) (.chk (.room (.len (.app 11 (.sub (.v 39) (.c (.i .i64 0)) (.v 37)) (.mk (.bin .sub (.len (.v 39)) (.v 37)) [(.c (.b false)), (.c (.i .u64 0)), (.c (.b false)), (.c (.i .i64 0)), (.c (.i .u64 0)), (.c (.i .u64 0)), (.c (.b false)), (.c (.b false)), (.c (.b false)), (.c (.b false)), (.c (.b false))]))) 0) (.chk (.bnd (.c (.i .i64 0)) (.v 37) (.len (.app 11 (.sub (.v 39) (.c (.i .i64 0)) (.v 37)) (.mk (.bin .sub (.len (.v 39)) (.v 37)) [(.c (.b false)), (.c (.i .u64 0)), (.c (.b false)), (.c (.i .i64 0)), (.c (.i .u64 0)), (.c (.i .u64 0)), (.c (.b false)), (.c (.b false)), (.c (.b false)), (.c (.b false)), (.c (.b false))])))) (.loop [(.c (.i .i64 0)), (.sub (.app 11 (.sub (.v 39) (.c (.i .i64 0)) (.v 37)) (.mk (.bin .sub (.len (.v 39)) (.v 37)) [(.c (.b false)), (.c (.i .u64 0)), (.c (.b false)), (.c (.i .i64 0)), (.c (.i .u64 0)), (.c (.i .u64 0)), (.c (.b false)), (.c (.b false)), (.c (.b false)), (.c (.b false)), (.c (.b false))])) (.c (.i .i64 0)) (.v 37))]
  (.lt (.bin .lss (.v 41) (.len (.v 42))) (.ite (.v 43)
  (.chk (.inb (.v 42) (.v 41) 11) (.chk (.inb (.v 42) (.v 41) 11) (.lt (.bin .add (.v 41) (.c (.i .i64 1))) (.cont 3 [(.v 44), (.put (.v 42) (.v 41) 0 [(.c (.b false)), (.c (.i .u64 0)), (.c (.b false)), (.c (.i .i64 0)), (.c (.i .u64 0)), (.c (.i .u64 0)), (.c (.b false)), (.c (.b false)), (.c (.b false)), (.c (.b false)), (.c (.b false))])]))))
  (.call 21 [(true, [(.app 45 (.c (.sl 45 [])) (.v 0))]), (true, [(.v 0)])] [(false, 1)]
  (.ret [(false, [(.v 44)])])))))))))))))))
  (.lt (.bin .add (.v 32) (.c (.i .i64 1))) (.cont 1 [(.v 31), (.v 35)]))))))
  (.loop [(.c (.i .i64 0)), (.v 29)]
  (.lt (.bin .lss (.v 34) (.len (.v 35))) (.ite (.v 36)
  (.chk (.inb (.v 35) (.v 34) 11) (.chk (.inb (.v 35) (.v 34) 11) (.lt (.bin .add (.v 34) (.c (.i .i64 1))) (.cont 2 [(.v 37), (.put (.v 35) (.v 34) 0 [(.c (.b false)), (.c (.i .u64 0)), (.c (.b false)), (.c (.i .i64 0)), (.c (.i .u64 0)), (.c (.i .u64 0)), (.c (.b false)), (.c (.b false)), (.c (.b false)), (.c (.b false)), (.c (.b false))])]))))
  (.call 21 [(true, [(.app 45 (.c (.sl 45 [])) (.v 0))]), (true, [(.v 0)])] [(false, 1)]
  (.ret [(false, [(.v 37)])]))))))))))))))))))))))))))))))
theorem atlaslaw14_TlbKeeps_c : compile envIrTk 3000 8 = .ok atlaslaw14_TlbKeeps_ir := by kernel_rfl
theorem atlaslaw14_TlbKeeps_p : paramShape Tryd.prog 8 = some [(true, 1), (true, 11), (false, 1), (false, 1)] := by kernel_rfl
theorem atlaslaw14_TlbKeeps_k : Known gAll 8 (.ir [(true, 1), (true, 11), (false, 1), (false, 1)] atlaslaw14_TlbKeeps_ir) := known_ir (E := envIrTk) (n := 3000) rfl rfl atlaslaw14_TlbKeeps_c atlaslaw14_TlbKeeps_p
def TIrTk : Tbl :=
  (8, .ir [(true, 1), (true, 11), (false, 1), (false, 1)] atlaslaw14_TlbKeeps_ir) ::
  []
theorem TIrTk_ok : ∀ x ∈ TIrTk, Known gAll x.1 x.2 :=
  kcons atlaslaw14_TlbKeeps_k <|
  fun _ h => nomatch h
end Go.Proofs.YtmjhghclgockjaaDoor.Sx
