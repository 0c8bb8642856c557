/-
  IRs of functions, printed by a program of mine (wip/tools/mkir.py, ev.run.lean); each is checked by the kernel against the executor.
-/
import Derived.Test.YtmjhghclgockjaaDoorRun
import Derived.Test.YtmjhghclgockjaaDoorProg
namespace Go.Proofs.YtmjhghclgockjaaDoor.Sx
open Go
set_option maxRecDepth 100000
noncomputable def envIrTl : Env := { P := Tryd.prog, G := gAll, inl := [], unr := [], jn := List.range 400 }
/-- atlas/atlaslaw14.TlbFinds -/
def atlaslaw14_TlbFinds_ir : IR :=
  (.jn (.ite (.v 15)
  (.call 9 [] [(false, 1)]
  (.ret [(false, [(.v 16)])]))
  (.call 13 [(true, [(.v 0)]), (true, (vr 1 11)), (false, [(.v 12)])] [(true, 1)]
  (.jn (.ite (.v 17)
  (.ret [(false, [(.c (.b false))])])
  (.call 15 [(true, [(.v 16)]), (false, [(.v 2)]), (false, [(.v 13)])] [(true, 11), (false, 1), (false, 1), (false, 1)]
  (.jn (.ite (.v 32)
  (.ret [(false, [(.c (.b false))])])
  (.jn (.ite (.v 33)
  (.ret [(false, [(.c (.b false))])])
  (.call 15 [(true, [(.v 0)]), (false, [(.v 14)]), (false, [(.v 13)])] [(true, 11), (false, 1), (false, 1), (false, 1)]
  (.call 15 [(true, [(.v 16)]), (false, [(.v 14)]), (false, [(.v 13)])] [(true, 11), (false, 1), (false, 1), (false, 1)]
  (.jn (.ret [(false, [(.v 62)])])
  (.ite (.v 47)
  (.cont 0 [(.c (.b true))])
  (.lt (.un .not (.v 61)) (.ite (.v 62)
  (.cont 0 [(.c (.b true))])
  (.lt (.ite (.eqt true (.v 48) (.v 1)) (.ite (.eqt false (.v 49) (.v 2)) (.ite (.eqt true (.v 50) (.v 3)) (.ite (.eqt false (.v 51) (.v 4)) (.ite (.eqt false (.v 52) (.v 5)) (.ite (.eqt false (.v 53) (.v 6)) (.ite (.eqt true (.v 54) (.v 7)) (.ite (.eqt true (.v 55) (.v 8)) (.ite (.eqt true (.v 56) (.v 9)) (.ite (.eqt true (.v 57) (.v 10)) (.ite (.eqt true (.v 58) (.v 11)) (.c (.b true)) (.c (.b false))) (.c (.b false))) (.c (.b false))) (.c (.b false))) (.c (.b false))) (.c (.b false))) (.c (.b false))) (.c (.b false))) (.c (.b false))) (.c (.b false))) (.c (.b false))) (.cont 0 [(.v 63)])))))))))
  (.ite (.v 31)
  (.lt (.bin .lss (.v 29) (.c (.i .i64 0))) (.ite (.v 33)
  (.cont 0 [(.c (.b true))])
  (.lt (.len (.v 16)) (.lt (.bin .geq (.v 29) (.v 34)) (.ite (.v 35)
  (.cont 0 [(.c (.b true))])
  (.lt (.bin .lss (.v 30) (.c (.i .i64 0))) (.ite (.v 36)
  (.cont 0 [(.c (.b true))])
  (.lt (.bin .gtr (.v 30) (.c (.i .i64 3))) (.ite (.v 37)
  (.cont 0 [(.c (.b true))])
  (.chk (.inb (.v 16) (.v 29) 45) (.ite (.bin .eql (.v 30) (.c (.i .i64 0)))
  (.lt (.un .not (.ite (.eqt true (.idx (.v 16) (.v 29) 0) (.v 18)) (.ite (.eqt false (.idx (.v 16) (.v 29) 1) (.v 19)) (.ite (.eqt true (.idx (.v 16) (.v 29) 2) (.v 20)) (.ite (.eqt false (.idx (.v 16) (.v 29) 3) (.v 21)) (.ite (.eqt false (.idx (.v 16) (.v 29) 4) (.v 22)) (.ite (.eqt false (.idx (.v 16) (.v 29) 5) (.v 23)) (.ite (.eqt true (.idx (.v 16) (.v 29) 6) (.v 24)) (.ite (.eqt true (.idx (.v 16) (.v 29) 7) (.v 25)) (.ite (.eqt true (.idx (.v 16) (.v 29) 8) (.v 26)) (.ite (.eqt true (.idx (.v 16) (.v 29) 9) (.v 27)) (.ite (.eqt true (.idx (.v 16) (.v 29) 10) (.v 28)) (.c (.b true)) (.c (.b false))) (.c (.b false))) (.c (.b false))) (.c (.b false))) (.c (.b false))) (.c (.b false))) (.c (.b false))) (.c (.b false))) (.c (.b false))) (.c (.b false))) (.c (.b false)))) (.cont 0 [(.v 38)]))
  (.ite (.bin .eql (.v 30) (.c (.i .i64 1)))
  (.lt (.un .not (.ite (.eqt true (.idx (.v 16) (.v 29) 11) (.v 18)) (.ite (.eqt false (.idx (.v 16) (.v 29) 12) (.v 19)) (.ite (.eqt true (.idx (.v 16) (.v 29) 13) (.v 20)) (.ite (.eqt false (.idx (.v 16) (.v 29) 14) (.v 21)) (.ite (.eqt false (.idx (.v 16) (.v 29) 15) (.v 22)) (.ite (.eqt false (.idx (.v 16) (.v 29) 16) (.v 23)) (.ite (.eqt true (.idx (.v 16) (.v 29) 17) (.v 24)) (.ite (.eqt true (.idx (.v 16) (.v 29) 18) (.v 25)) (.ite (.eqt true (.idx (.v 16) (.v 29) 19) (.v 26)) (.ite (.eqt true (.idx (.v 16) (.v 29) 20) (.v 27)) (.ite (.eqt true (.idx (.v 16) (.v 29) 21) (.v 28)) (.c (.b true)) (.c (.b false))) (.c (.b false))) (.c (.b false))) (.c (.b false))) (.c (.b false))) (.c (.b false))) (.c (.b false))) (.c (.b false))) (.c (.b false))) (.c (.b false))) (.c (.b false)))) (.cont 0 [(.v 38)]))
  (.ite (.bin .eql (.v 30) (.c (.i .i64 2)))
  (.lt (.un .not (.ite (.eqt true (.idx (.v 16) (.v 29) 22) (.v 18)) (.ite (.eqt false (.idx (.v 16) (.v 29) 23) (.v 19)) (.ite (.eqt true (.idx (.v 16) (.v 29) 24) (.v 20)) (.ite (.eqt false (.idx (.v 16) (.v 29) 25) (.v 21)) (.ite (.eqt false (.idx (.v 16) (.v 29) 26) (.v 22)) (.ite (.eqt false (.idx (.v 16) (.v 29) 27) (.v 23)) (.ite (.eqt true (.idx (.v 16) (.v 29) 28) (.v 24)) (.ite (.eqt true (.idx (.v 16) (.v 29) 29) (.v 25)) (.ite (.eqt true (.idx (.v 16) (.v 29) 30) (.v 26)) (.ite (.eqt true (.idx (.v 16) (.v 29) 31) (.v 27)) (.ite (.eqt true (.idx (.v 16) (.v 29) 32) (.v 28)) (.c (.b true)) (.c (.b false))) (.c (.b false))) (.c (.b false))) (.c (.b false))) (.c (.b false))) (.c (.b false))) (.c (.b false))) (.c (.b false))) (.c (.b false))) (.c (.b false))) (.c (.b false)))) (.cont 0 [(.v 38)]))
  (.ite (.bin .eql (.v 30) (.c (.i .i64 3)))
  (.lt (.un .not (.ite (.eqt true (.idx (.v 16) (.v 29) 33) (.v 18)) (.ite (.eqt false (.idx (.v 16) (.v 29) 34) (.v 19)) (.ite (.eqt true (.idx (.v 16) (.v 29) 35) (.v 20)) (.ite (.eqt false (.idx (.v 16) (.v 29) 36) (.v 21)) (.ite (.eqt false (.idx (.v 16) (.v 29) 37) (.v 22)) (.ite (.eqt false (.idx (.v 16) (.v 29) 38) (.v 23)) (.ite (.eqt true (.idx (.v 16) (.v 29) 39) (.v 24)) (.ite (.eqt true (.idx (.v 16) (.v 29) 40) (.v 25)) (.ite (.eqt true (.idx (.v 16) (.v 29) 41) (.v 26)) (.ite (.eqt true (.idx (.v 16) (.v 29) 42) (.v 27)) (.ite (.eqt true (.idx (.v 16) (.v 29) 43) (.v 28)) (.c (.b true)) (.c (.b false))) (.c (.b false))) (.c (.b false))) (.c (.b false))) (.c (.b false))) (.c (.b false))) (.c (.b false))) (.c (.b false))) (.c (.b false))) (.c (.b false))) (.c (.b false)))) (.cont 0 [(.v 38)]))
  (.chk (.c (.b false)) (.ret []))))))))))))))))
  (.cont 0 [(.c (.b false))]))))
  (.call 16 [(true, (vr 1 11)), (false, [(.v 13)])] [(false, 1)]
  (.ite (.v 32)
  (.lt (.un .not (.v 31)) (.ite (.v 33)
  (.cont 0 [(.c (.b true))])
  (.lt (.bin .gtr (.v 21) (.v 4)) (.ite (.v 34)
  (.cont 0 [(.c (.b true))])
  (.ite (.v 31)
  (.call 17 [(true, (vr 18 11)), (false, [(.v 2)]), (false, [(.v 13)])] [(false, 1)]
  (.lt (.un .not (.v 35)) (.cont 0 [(.v 36)])))
  (.cont 0 [(.c (.b false))]))))))
  (.ite (.v 31)
  (.call 17 [(true, (vr 18 11)), (false, [(.v 2)]), (false, [(.v 13)])] [(false, 1)]
  (.lt (.un .not (.v 33)) (.cont 0 [(.v 34)])))
  (.cont 0 [(.c (.b false))])))))))
  (.call 14 [(true, [(.v 16)])] [(false, 1)]
  (.lt (.un .not (.v 17)) (.ite (.v 18)
  (.cont 0 [(.c (.b true))])
  (.lt (.len (.v 16)) (.lt (.len (.v 0)) (.lt (.bin .neq (.v 19) (.v 20)) (.cont 0 [(.v 21)]))))))))))
  (.call 9 [] [(false, 1)]
  (.lt (.un .not (.v 15)) (.ite (.v 16)
  (.cont 0 [(.c (.b true))])
  (.call 10 [(true, [(.v 0)])] [(false, 1)]
  (.lt (.un .not (.v 17)) (.ite (.v 18)
  (.cont 0 [(.c (.b true))])
  (.call 11 [(true, (vr 1 11))] [(false, 1)]
  (.lt (.un .not (.v 19)) (.ite (.v 20)
  (.cont 0 [(.c (.b true))])
  (.lt (.un .not (.v 1)) (.ite (.v 21)
  (.cont 0 [(.c (.b true))])
  (.call 12 [(false, [(.v 13)])] [(false, 1)]
  (.lt (.un .not (.v 22)) (.ite (.v 23)
  (.cont 0 [(.c (.b true))])
  (.lt (.len (.v 0)) (.lt (.bin .eql (.v 24) (.c (.i .i64 0))) (.cont 0 [(.v 25)]))))))))))))))))))
theorem atlaslaw14_TlbFinds_c : compile envIrTl 3000 3 = .ok atlaslaw14_TlbFinds_ir := by kernel_rfl
theorem atlaslaw14_TlbFinds_p : paramShape Tryd.prog 3 = some [(true, 1), (true, 11), (false, 1), (false, 1), (false, 1)] := by kernel_rfl
theorem atlaslaw14_TlbFinds_k : Known gAll 3 (.ir [(true, 1), (true, 11), (false, 1), (false, 1), (false, 1)] atlaslaw14_TlbFinds_ir) := known_ir (E := envIrTl) (n := 3000) rfl rfl atlaslaw14_TlbFinds_c atlaslaw14_TlbFinds_p
/-- atlas/atlaslaw14.TlbAsid -/
def atlaslaw14_TlbAsid_ir : IR :=
  (.jn (.ite (.v 4)
  (.call 9 [] [(false, 1)]
  (.ret [(false, [(.v 5)])]))
  (.call 15 [(true, [(.v 0)]), (false, [(.v 1)]), (false, [(.v 3)])] [(true, 11), (false, 1), (false, 1), (false, 1)]
  (.call 15 [(true, [(.v 0)]), (false, [(.v 2)]), (false, [(.v 3)])] [(true, 11), (false, 1), (false, 1), (false, 1)]
  (.jn (.ite (.v 33)
  (.ret [(false, [(.c (.b false))])])
  (.call 19 [(true, [(.v 0)])] [(false, 1)]
  (.loop [(.c (.b false)), (.c (.i .i64 0))]
  (.lt (.len (.v 34)) (.lt (.bin .lss (.v 36) (.v 37)) (.ite (.v 38)
  (.jn (.lt (.bin .add (.v 36) (.c (.i .i64 1))) (.cont 0 [(.v 39), (.v 40)]))
  (.ite (.v 35)
  (.cont 1 [(.c (.b true))])
  (.chk (.inb (.v 34) (.v 36) 11) (.call 16 [(true, (idr (.v 34) (.v 36) 0 11)), (false, [(.v 3)])] [(false, 1)]
  (.cont 1 [(.v 39)])))))
  (.jn (.ret [(false, [(.v 39)])])
  (.ite (.v 35)
  (.cont 1 [(.c (.b true))])
  (.lt (.un .not (.v 18)) (.ite (.v 39)
  (.lt (.un .not (.v 32)) (.cont 1 [(.v 40)]))
  (.cont 1 [(.c (.b false))])))))))))))
  (.ite (.v 18)
  (.lt (.un .not (.v 7)) (.ite (.v 33)
  (.lt (.bin .neq (.v 6) (.v 1)) (.ite (.v 34)
  (.cont 0 [(.c (.b true))])
  (.ite (.v 32)
  (.lt (.un .not (.v 21)) (.ite (.v 35)
  (.lt (.bin .neq (.v 20) (.v 2)) (.ite (.v 36)
  (.cont 0 [(.c (.b true))])
  (.ite (.v 18)
  (.ite (.v 7)
  (.lt (.un .not (.v 32)) (.cont 0 [(.v 37)]))
  (.cont 0 [(.c (.b false))]))
  (.cont 0 [(.c (.b false))]))))
  (.ite (.v 18)
  (.ite (.v 7)
  (.lt (.un .not (.v 32)) (.cont 0 [(.v 36)]))
  (.cont 0 [(.c (.b false))]))
  (.cont 0 [(.c (.b false))]))))
  (.ite (.v 18)
  (.ite (.v 7)
  (.lt (.un .not (.v 32)) (.cont 0 [(.v 35)]))
  (.cont 0 [(.c (.b false))]))
  (.cont 0 [(.c (.b false))])))))
  (.ite (.v 32)
  (.lt (.un .not (.v 21)) (.ite (.v 34)
  (.lt (.bin .neq (.v 20) (.v 2)) (.ite (.v 35)
  (.cont 0 [(.c (.b true))])
  (.ite (.v 18)
  (.ite (.v 7)
  (.lt (.un .not (.v 32)) (.cont 0 [(.v 36)]))
  (.cont 0 [(.c (.b false))]))
  (.cont 0 [(.c (.b false))]))))
  (.ite (.v 18)
  (.ite (.v 7)
  (.lt (.un .not (.v 32)) (.cont 0 [(.v 35)]))
  (.cont 0 [(.c (.b false))]))
  (.cont 0 [(.c (.b false))]))))
  (.ite (.v 18)
  (.ite (.v 7)
  (.lt (.un .not (.v 32)) (.cont 0 [(.v 34)]))
  (.cont 0 [(.c (.b false))]))
  (.cont 0 [(.c (.b false))])))))
  (.ite (.v 32)
  (.lt (.un .not (.v 21)) (.ite (.v 33)
  (.lt (.bin .neq (.v 20) (.v 2)) (.ite (.v 34)
  (.cont 0 [(.c (.b true))])
  (.ite (.v 18)
  (.ite (.v 7)
  (.lt (.un .not (.v 32)) (.cont 0 [(.v 35)]))
  (.cont 0 [(.c (.b false))]))
  (.cont 0 [(.c (.b false))]))))
  (.ite (.v 18)
  (.ite (.v 7)
  (.lt (.un .not (.v 32)) (.cont 0 [(.v 34)]))
  (.cont 0 [(.c (.b false))]))
  (.cont 0 [(.c (.b false))]))))
  (.ite (.v 18)
  (.ite (.v 7)
  (.lt (.un .not (.v 32)) (.cont 0 [(.v 33)]))
  (.cont 0 [(.c (.b false))]))
  (.cont 0 [(.c (.b false))]))))))))
  (.call 9 [] [(false, 1)]
  (.lt (.un .not (.v 4)) (.ite (.v 5)
  (.cont 0 [(.c (.b true))])
  (.call 10 [(true, [(.v 0)])] [(false, 1)]
  (.lt (.un .not (.v 6)) (.ite (.v 7)
  (.cont 0 [(.c (.b true))])
  (.call 12 [(false, [(.v 3)])] [(false, 1)]
  (.lt (.un .not (.v 8)) (.cont 0 [(.v 9)]))))))))))
theorem atlaslaw14_TlbAsid_c : compile envIrTl 3000 5 = .ok atlaslaw14_TlbAsid_ir := by kernel_rfl
theorem atlaslaw14_TlbAsid_p : paramShape Tryd.prog 5 = some [(true, 1), (false, 1), (false, 1), (false, 1)] := by kernel_rfl
theorem atlaslaw14_TlbAsid_k : Known gAll 5 (.ir [(true, 1), (false, 1), (false, 1), (false, 1)] atlaslaw14_TlbAsid_ir) := known_ir (E := envIrTl) (n := 3000) rfl rfl atlaslaw14_TlbAsid_c atlaslaw14_TlbAsid_p
/-- atlas/atlaslaw14.TlbDoes -/
def atlaslaw14_TlbDoes_ir : IR :=
  (.jn (.ite (.v 18)
  (.call 9 [] [(false, 1)]
  (.ret [(false, [(.v 19)])]))
  (.call 18 [(false, [(.v 17)])] [(true, 1), (false, 1)]
  (.jn (.ite (.v 21)
  (.ret [(false, [(.c (.b false))])])
  (.jn (.ite (.v 22)
  (.call 14 [(true, [(.v 0)])] [(false, 1)]
  (.call 10 [(true, [(.v 0)])] [(false, 1)]
  (.lt (.eqt true (.v 23) (.v 24)) (.ret [(false, [(.v 25)])]))))
  (.call 15 [(true, [(.v 0)]), (false, [(.v 15)]), (false, [(.v 16)])] [(true, 11), (false, 1), (false, 1), (false, 1)]
  (.call 22 [(true, [(.v 0)]), (false, [(.v 15)]), (false, [(.v 16)])] [(true, 11), (false, 1), (false, 1), (false, 1)]
  (.call 23 [(true, [(.v 0)]), (false, [(.v 13)]), (false, [(.v 14)])] [(true, 1), (false, 1)]
  (.call 24 [(true, [(.v 0)]), (false, [(.v 13)]), (false, [(.v 14)])] [(true, 1), (false, 1)]
  (.jn (.ite (.v 55)
  (.ret [(false, [(.c (.b false))])])
  (.call 19 [(true, [(.v 0)])] [(false, 1)]
  (.call 27 [(true, [(.v 0)])] [(false, 1)]
  (.lt (.len (.v 56)) (.lt (.len (.v 57)) (.lt (.bin .neq (.v 58) (.v 59)) (.ite (.v 60)
  (.ret [(false, [(.c (.b false))])])
  (.loop [(.c (.b false)), (.c (.i .i64 0))]
  (.lt (.len (.v 56)) (.lt (.bin .lss (.v 62) (.v 63)) (.ite (.v 64)
  (.chk (.inb (.v 56) (.v 62) 11) (.chk (.inb (.v 57) (.v 62) 11) (.lt (.un .not (.ite (.eqt true (.idx (.v 56) (.v 62) 0) (.idx (.v 57) (.v 62) 0)) (.ite (.eqt false (.idx (.v 56) (.v 62) 1) (.idx (.v 57) (.v 62) 1)) (.ite (.eqt true (.idx (.v 56) (.v 62) 2) (.idx (.v 57) (.v 62) 2)) (.ite (.eqt false (.idx (.v 56) (.v 62) 3) (.idx (.v 57) (.v 62) 3)) (.ite (.eqt false (.idx (.v 56) (.v 62) 4) (.idx (.v 57) (.v 62) 4)) (.ite (.eqt false (.idx (.v 56) (.v 62) 5) (.idx (.v 57) (.v 62) 5)) (.ite (.eqt true (.idx (.v 56) (.v 62) 6) (.idx (.v 57) (.v 62) 6)) (.ite (.eqt true (.idx (.v 56) (.v 62) 7) (.idx (.v 57) (.v 62) 7)) (.ite (.eqt true (.idx (.v 56) (.v 62) 8) (.idx (.v 57) (.v 62) 8)) (.ite (.eqt true (.idx (.v 56) (.v 62) 9) (.idx (.v 57) (.v 62) 9)) (.ite (.eqt true (.idx (.v 56) (.v 62) 10) (.idx (.v 57) (.v 62) 10)) (.c (.b true)) (.c (.b false))) (.c (.b false))) (.c (.b false))) (.c (.b false))) (.c (.b false))) (.c (.b false))) (.c (.b false))) (.c (.b false))) (.c (.b false))) (.c (.b false))) (.c (.b false)))) (.ite (.v 65)
  (.ret [(false, [(.c (.b false))])])
  (.lt (.bin .add (.v 62) (.c (.i .i64 1))) (.cont 0 [(.v 61), (.v 66)]))))))
  (.jn (.ret [(false, [(.v 65)])])
  (.lt (.un .not (.v 1)) (.ite (.v 65)
  (.cont 1 [(.c (.b true))])
  (.call 13 [(true, [(.v 0)]), (true, (vr 1 11)), (false, [(.v 12)])] [(true, 1)]
  (.call 28 [(true, [(.v 0)]), (true, (vr 1 11)), (false, [(.v 12)])] [(true, 1)]
  (.call 21 [(true, [(.v 66)]), (true, [(.v 67)])] [(false, 1)]
  (.cont 1 [(.v 68)]))))))))))))))))))
  (.lt (.un .not (.ite (.eqt true (.v 23) (.v 37)) (.ite (.eqt false (.v 24) (.v 38)) (.ite (.eqt true (.v 25) (.v 39)) (.ite (.eqt false (.v 26) (.v 40)) (.ite (.eqt false (.v 27) (.v 41)) (.ite (.eqt false (.v 28) (.v 42)) (.ite (.eqt true (.v 29) (.v 43)) (.ite (.eqt true (.v 30) (.v 44)) (.ite (.eqt true (.v 31) (.v 45)) (.ite (.eqt true (.v 32) (.v 46)) (.ite (.eqt true (.v 33) (.v 47)) (.c (.b true)) (.c (.b false))) (.c (.b false))) (.c (.b false))) (.c (.b false))) (.c (.b false))) (.c (.b false))) (.c (.b false))) (.c (.b false))) (.c (.b false))) (.c (.b false))) (.c (.b false)))) (.ite (.v 55)
  (.cont 0 [(.c (.b true))])
  (.lt (.bin .neq (.v 34) (.v 48)) (.ite (.v 56)
  (.cont 0 [(.c (.b true))])
  (.lt (.bin .neq (.v 35) (.v 49)) (.ite (.v 57)
  (.cont 0 [(.c (.b true))])
  (.lt (.un .not (.eqt true (.v 36) (.v 50))) (.ite (.v 58)
  (.cont 0 [(.c (.b true))])
  (.call 21 [(true, [(.v 51)]), (true, [(.v 53)])] [(false, 1)]
  (.lt (.un .not (.v 59)) (.ite (.v 60)
  (.cont 0 [(.c (.b true))])
  (.lt (.bin .neq (.v 52) (.v 54)) (.ite (.v 61)
  (.cont 0 [(.c (.b true))])
  (.ite (.v 36)
  (.call 25 [(true, [(.v 0)]), (false, [(.v 34)]), (false, [(.v 35)])] [(true, 1)]
  (.call 26 [(true, [(.v 0)]), (false, [(.v 48)]), (false, [(.v 49)])] [(true, 1)]
  (.call 21 [(true, [(.v 62)]), (true, [(.v 63)])] [(false, 1)]
  (.lt (.un .not (.v 64)) (.cont 0 [(.v 65)])))))
  (.cont 0 [(.c (.b false))])))))))))))))))))))))
  (.call 14 [(true, [(.v 0)])] [(false, 1)]
  (.call 10 [(true, [(.v 0)])] [(false, 1)]
  (.lt (.un .not (.eqt true (.v 22) (.v 23))) (.ite (.v 24)
  (.cont 0 [(.c (.b true))])
  (.call 10 [(true, [(.v 0)])] [(false, 1)]
  (.lt (.un .not (.v 25)) (.ite (.v 26)
  (.cont 0 [(.c (.b true))])
  (.call 11 [(true, (vr 1 11))] [(false, 1)]
  (.lt (.un .not (.v 27)) (.ite (.v 28)
  (.cont 0 [(.c (.b true))])
  (.call 12 [(false, [(.v 16)])] [(false, 1)]
  (.lt (.un .not (.v 29)) (.cont 0 [(.v 30)])))))))))))))))
  (.lt (.bin .geq (.v 17) (.c (.i .i64 0))) (.ite (.v 21)
  (.lt (.bin .leq (.v 17) (.c (.i .i64 16))) (.lt (.bin .eql (.v 20) (.c (.i .i64 0))) (.lt (.un .not (.eqt true (.v 22) (.v 23))) (.ite (.v 24)
  (.cont 0 [(.c (.b true))])
  (.lt (.bin .neq (.v 20) (.c (.i .i64 0))) (.ite (.v 25)
  (.lt (.bin .neq (.v 20) (.c (.i .i64 1))) (.ite (.v 26)
  (.cont 0 [(.c (.b true))])
  (.lt (.bin .eql (.v 20) (.c (.i .i64 0))) (.ite (.v 27)
  (.lt (.ite (.bin .lss (.c (.i .i64 16)) (.v 17)) (.c (.i .i64 16)) (.v 17)) (.lt (.ite (.bin .gtr (.v 28) (.c (.i .i64 0))) (.v 28) (.c (.i .i64 0))) (.chk (.room (.v 29) 233) (.lt (.mk (.v 29) [(.c (.b false)), (.c (.i .u64 0)), (.c (.b false)), (.c (.i .i64 0)), (.c (.i .u64 0)), (.c (.i .u64 0)), (.c (.b false)), (.c (.b false)), (.c (.b false)), (.c (.b false)), (.c (.b false)), (.c (.b false)), (.c (.i .u64 0)), (.c (.b false)), (.c (.i .i64 0)), (.c (.i .u64 0)), (.c (.i .u64 0)), (.c (.b false)), (.c (.b false)), (.c (.b false)), (.c (.b false)), (.c (.b false)), (.c (.b false)), (.c (.i .u64 0)), (.c (.b false)), (.c (.i .i64 0)), (.c (.i .u64 0)), (.c (.i .u64 0)), (.c (.b false)), (.c (.b false)), (.c (.b false)), (.c (.b false)), (.c (.b false)), (.c (.b false)), (.c (.i .u64 0)), (.c (.b false)), (.c (.i .i64 0)), (.c (.i .u64 0)), (.c (.i .u64 0)), (.c (.b false)), (.c (.b false)), (.c (.b false)), (.c (.b false)), (.c (.b false)), (.c (.i .u8 0))]) (.call 21 [(true, [(.v 19)]), (true, [(.v 30)])] [(false, 1)]
  (.lt (.un .not (.v 31)) (.cont 0 [(.v 32)])))))))
  (.cont 0 [(.c (.b false))])))))
  (.lt (.bin .eql (.v 20) (.c (.i .i64 0))) (.ite (.v 26)
  (.lt (.ite (.bin .lss (.c (.i .i64 16)) (.v 17)) (.c (.i .i64 16)) (.v 17)) (.lt (.ite (.bin .gtr (.v 27) (.c (.i .i64 0))) (.v 27) (.c (.i .i64 0))) (.chk (.room (.v 28) 233) (.lt (.mk (.v 28) [(.c (.b false)), (.c (.i .u64 0)), (.c (.b false)), (.c (.i .i64 0)), (.c (.i .u64 0)), (.c (.i .u64 0)), (.c (.b false)), (.c (.b false)), (.c (.b false)), (.c (.b false)), (.c (.b false)), (.c (.b false)), (.c (.i .u64 0)), (.c (.b false)), (.c (.i .i64 0)), (.c (.i .u64 0)), (.c (.i .u64 0)), (.c (.b false)), (.c (.b false)), (.c (.b false)), (.c (.b false)), (.c (.b false)), (.c (.b false)), (.c (.i .u64 0)), (.c (.b false)), (.c (.i .i64 0)), (.c (.i .u64 0)), (.c (.i .u64 0)), (.c (.b false)), (.c (.b false)), (.c (.b false)), (.c (.b false)), (.c (.b false)), (.c (.b false)), (.c (.i .u64 0)), (.c (.b false)), (.c (.i .i64 0)), (.c (.i .u64 0)), (.c (.i .u64 0)), (.c (.b false)), (.c (.b false)), (.c (.b false)), (.c (.b false)), (.c (.b false)), (.c (.i .u8 0))]) (.call 21 [(true, [(.v 19)]), (true, [(.v 29)])] [(false, 1)]
  (.lt (.un .not (.v 30)) (.cont 0 [(.v 31)])))))))
  (.cont 0 [(.c (.b false))])))))))))
  (.lt (.bin .eql (.v 20) (.c (.i .i64 0))) (.lt (.un .not (.eqt true (.c (.b false)) (.v 22))) (.ite (.v 23)
  (.cont 0 [(.c (.b true))])
  (.lt (.bin .neq (.v 20) (.c (.i .i64 0))) (.ite (.v 24)
  (.lt (.bin .neq (.v 20) (.c (.i .i64 1))) (.ite (.v 25)
  (.cont 0 [(.c (.b true))])
  (.lt (.bin .eql (.v 20) (.c (.i .i64 0))) (.ite (.v 26)
  (.lt (.ite (.bin .lss (.c (.i .i64 16)) (.v 17)) (.c (.i .i64 16)) (.v 17)) (.lt (.ite (.bin .gtr (.v 27) (.c (.i .i64 0))) (.v 27) (.c (.i .i64 0))) (.chk (.room (.v 28) 233) (.lt (.mk (.v 28) [(.c (.b false)), (.c (.i .u64 0)), (.c (.b false)), (.c (.i .i64 0)), (.c (.i .u64 0)), (.c (.i .u64 0)), (.c (.b false)), (.c (.b false)), (.c (.b false)), (.c (.b false)), (.c (.b false)), (.c (.b false)), (.c (.i .u64 0)), (.c (.b false)), (.c (.i .i64 0)), (.c (.i .u64 0)), (.c (.i .u64 0)), (.c (.b false)), (.c (.b false)), (.c (.b false)), (.c (.b false)), (.c (.b false)), (.c (.b false)), (.c (.i .u64 0)), (.c (.b false)), (.c (.i .i64 0)), (.c (.i .u64 0)), (.c (.i .u64 0)), (.c (.b false)), (.c (.b false)), (.c (.b false)), (.c (.b false)), (.c (.b false)), (.c (.b false)), (.c (.i .u64 0)), (.c (.b false)), (.c (.i .i64 0)), (.c (.i .u64 0)), (.c (.i .u64 0)), (.c (.b false)), (.c (.b false)), (.c (.b false)), (.c (.b false)), (.c (.b false)), (.c (.i .u8 0))]) (.call 21 [(true, [(.v 19)]), (true, [(.v 29)])] [(false, 1)]
  (.lt (.un .not (.v 30)) (.cont 0 [(.v 31)])))))))
  (.cont 0 [(.c (.b false))])))))
  (.lt (.bin .eql (.v 20) (.c (.i .i64 0))) (.ite (.v 25)
  (.lt (.ite (.bin .lss (.c (.i .i64 16)) (.v 17)) (.c (.i .i64 16)) (.v 17)) (.lt (.ite (.bin .gtr (.v 26) (.c (.i .i64 0))) (.v 26) (.c (.i .i64 0))) (.chk (.room (.v 27) 233) (.lt (.mk (.v 27) [(.c (.b false)), (.c (.i .u64 0)), (.c (.b false)), (.c (.i .i64 0)), (.c (.i .u64 0)), (.c (.i .u64 0)), (.c (.b false)), (.c (.b false)), (.c (.b false)), (.c (.b false)), (.c (.b false)), (.c (.b false)), (.c (.i .u64 0)), (.c (.b false)), (.c (.i .i64 0)), (.c (.i .u64 0)), (.c (.i .u64 0)), (.c (.b false)), (.c (.b false)), (.c (.b false)), (.c (.b false)), (.c (.b false)), (.c (.b false)), (.c (.i .u64 0)), (.c (.b false)), (.c (.i .i64 0)), (.c (.i .u64 0)), (.c (.i .u64 0)), (.c (.b false)), (.c (.b false)), (.c (.b false)), (.c (.b false)), (.c (.b false)), (.c (.b false)), (.c (.i .u64 0)), (.c (.b false)), (.c (.i .i64 0)), (.c (.i .u64 0)), (.c (.i .u64 0)), (.c (.b false)), (.c (.b false)), (.c (.b false)), (.c (.b false)), (.c (.b false)), (.c (.i .u8 0))]) (.call 21 [(true, [(.v 19)]), (true, [(.v 28)])] [(false, 1)]
  (.lt (.un .not (.v 29)) (.cont 0 [(.v 30)])))))))
  (.cont 0 [(.c (.b false))])))))))))))))
  (.call 9 [] [(false, 1)]
  (.lt (.un .not (.v 18)) (.ite (.v 19)
  (.cont 0 [(.c (.b true))])
  (.lt (.len (.v 0)) (.lt (.bin .gtr (.v 20) (.c (.i .i64 20))) (.cont 0 [(.v 21)])))))))
theorem atlaslaw14_TlbDoes_c : compile envIrTl 3000 6 = .ok atlaslaw14_TlbDoes_ir := by kernel_rfl
theorem atlaslaw14_TlbDoes_p : paramShape Tryd.prog 6 = some [(true, 1), (true, 11), (false, 1), (false, 1), (false, 1), (false, 1), (false, 1), (false, 1)] := by kernel_rfl
theorem atlaslaw14_TlbDoes_k : Known gAll 6 (.ir [(true, 1), (true, 11), (false, 1), (false, 1), (false, 1), (false, 1), (false, 1), (false, 1)] atlaslaw14_TlbDoes_ir) := known_ir (E := envIrTl) (n := 3000) rfl rfl atlaslaw14_TlbDoes_c atlaslaw14_TlbDoes_p
noncomputable def envIrTla : Env := { P := Tryd.prog, G := gAll, inl := [], unr := [] }
/-- atlas/atlaslaw14.TlbUnlike -/
def atlaslaw14_TlbUnlike_ir : IR :=
  (.call 9 [] [(false, 1)]
  (.lt (.un .not (.v 3)) (.ite (.v 4)
  (.call 9 [] [(false, 1)]
  (.ret [(false, [(.v 5)])]))
  (.lt (.len (.v 1)) (.lt (.bin .gtr (.v 5) (.c (.i .i64 100))) (.ite (.v 6)
  (.call 9 [] [(false, 1)]
  (.ret [(false, [(.v 7)])]))
  (.lt (.cv .i64 (.v 0)) (.lt (.bin .rem (.v 7) (.c (.i .i64 17))) (.call 18 [(false, [(.v 8)])] [(true, 1), (false, 1)]
  (.loop [(.c (.i .i64 0)), (.v 9)]
  (.lt (.len (.v 1)) (.lt (.bin .lss (.v 11) (.v 13)) (.ite (.v 14)
  (.chk (.inb (.v 1) (.v 11) 11) (.call 11 [(true, (idr (.v 1) (.v 11) 0 11))] [(false, 1)]
  (.lt (.un .not (.v 15)) (.ite (.v 16)
  (.lt (.bin .add (.v 11) (.c (.i .i64 1))) (.cont 0 [(.v 17), (.v 12)]))
  (.chk (.inb (.v 1) (.v 11) 11) (.lt (.un .not (.idx (.v 1) (.v 11) 0)) (.ite (.v 17)
  (.lt (.bin .add (.v 11) (.c (.i .i64 1))) (.cont 0 [(.v 18), (.v 12)]))
  (.lt (.len (.v 2)) (.lt (.bin .lss (.v 11) (.v 18)) (.ite (.v 19)
  (.chk (.inb (.v 2) (.v 11) 1) (.lt (.cv .i64 (.idx (.v 2) (.v 11) 0)) (.chk (.inb (.v 1) (.v 11) 11) (.call 13 [(true, [(.v 12)]), (true, (idr (.v 1) (.v 11) 0 11)), (false, [(.v 20)])] [(true, 1)]
  (.lt (.bin .add (.v 11) (.c (.i .i64 1))) (.cont 0 [(.v 22), (.v 21)]))))))
  (.chk (.inb (.v 1) (.v 11) 11) (.call 13 [(true, [(.v 12)]), (true, (idr (.v 1) (.v 11) 0 11)), (false, [(.c (.i .i64 (-1)))])] [(true, 1)]
  (.lt (.bin .add (.v 11) (.c (.i .i64 1))) (.cont 0 [(.v 21), (.v 20)]))))))))))))))
  (.call 19 [(true, [(.v 12)])] [(false, 1)]
  (.loop [(.c (.b false)), (.c (.i .i64 0))]
  (.lt (.len (.v 15)) (.lt (.bin .lss (.v 17) (.v 18)) (.ite (.v 19)
  (.loop [(.v 16), (.c (.i .i64 0))]
  (.lt (.bin .lss (.v 21) (.v 17)) (.ite (.v 22)
  (.chk (.inb (.v 15) (.v 17) 11) (.chk (.inb (.v 15) (.v 21) 11) (.call 20 [(true, (idr (.v 15) (.v 17) 0 11)), (true, (idr (.v 15) (.v 21) 0 11))] [(false, 1)]
  (.ite (.v 23)
  (.ret [(false, [(.c (.b false))])])
  (.lt (.bin .add (.v 21) (.c (.i .i64 1))) (.cont 2 [(.v 20), (.v 24)]))))))
  (.lt (.bin .add (.v 17) (.c (.i .i64 1))) (.cont 1 [(.v 20), (.v 23)])))))
  (.call 14 [(true, [(.v 12)])] [(false, 1)]
  (.ite (.v 20)
  (.lt (.len (.v 15)) (.lt (.cv .i64 (.v 0)) (.lt (.bin .rem (.v 22) (.c (.i .i64 17))) (.lt (.bin .mul (.c (.i .i64 4)) (.v 23)) (.lt (.bin .leq (.v 21) (.v 24)) (.ret [(false, [(.v 25)])]))))))
  (.ret [(false, [(.c (.b false))])])))))))))))))))))))))
theorem atlaslaw14_TlbUnlike_c : compile envIrTla 3000 4 = .ok atlaslaw14_TlbUnlike_ir := by kernel_rfl
theorem atlaslaw14_TlbUnlike_p : paramShape Tryd.prog 4 = some [(false, 1), (false, 1), (false, 1)] := by kernel_rfl
theorem atlaslaw14_TlbUnlike_k : Known gAll 4 (.ir [(false, 1), (false, 1), (false, 1)] atlaslaw14_TlbUnlike_ir) := known_ir (E := envIrTla) (n := 3000) rfl rfl atlaslaw14_TlbUnlike_c atlaslaw14_TlbUnlike_p
/-- atlas/atlaslaw14.TlbOne -/
def atlaslaw14_TlbOne_ir : IR :=
  (.call 9 [] [(false, 1)]
  (.lt (.un .not (.v 15)) (.ite (.v 16)
  (.call 9 [] [(false, 1)]
  (.ret [(false, [(.v 17)])]))
  (.call 10 [(true, [(.v 0)])] [(false, 1)]
  (.lt (.un .not (.v 17)) (.ite (.v 18)
  (.call 9 [] [(false, 1)]
  (.ret [(false, [(.v 19)])]))
  (.call 11 [(true, (vr 1 11))] [(false, 1)]
  (.lt (.un .not (.v 19)) (.ite (.v 20)
  (.call 9 [] [(false, 1)]
  (.ret [(false, [(.v 21)])]))
  (.lt (.un .not (.v 1)) (.ite (.v 21)
  (.call 9 [] [(false, 1)]
  (.ret [(false, [(.v 22)])]))
  (.lt (.len (.v 0)) (.lt (.bin .eql (.v 22) (.c (.i .i64 0))) (.ite (.v 23)
  (.call 9 [] [(false, 1)]
  (.ret [(false, [(.v 24)])]))
  (.lt (.cv .i64 (.v 13)) (.lt (.len (.v 0)) (.lt (.bin .rem (.v 24) (.v 25)) (.lt (.bin .rem (.v 14) (.c (.i .u8 4))) (.lt (.cv .i64 (.v 27)) (.call 13 [(true, [(.v 0)]), (true, (vr 1 11)), (false, [(.v 12)])] [(true, 1)]
  (.call 25 [(true, [(.v 0)]), (false, [(.v 26)]), (false, [(.v 28)])] [(true, 1)]
  (.call 23 [(true, [(.v 0)]), (false, [(.v 26)]), (false, [(.v 28)])] [(true, 1), (false, 1)]
  (.chk (.room (.len (.app 1 (.cat (.one [(.v 29)]) (.one [(.v 30)])) (.one [(.v 31)]))) 25) (.loop [(.c (.b false)), (.c (.i .i64 0))]
  (.lt (.bin .lss (.v 34) (.len (.app 1 (.cat (.one [(.v 29)]) (.one [(.v 30)])) (.one [(.v 31)])))) (.ite (.v 35)
  (.chk (.inb (.app 1 (.cat (.one [(.v 29)]) (.one [(.v 30)])) (.one [(.v 31)])) (.v 34) 1) (.chk (.inb (.app 1 (.cat (.one [(.v 29)]) (.one [(.v 30)])) (.one [(.v 31)])) (.v 34) 1) (.lt (.len (.idx (.app 1 (.cat (.one [(.v 29)]) (.one [(.v 30)])) (.one [(.v 31)])) (.v 34) 0)) (.lt (.len (.v 0)) (.lt (.bin .neq (.v 36) (.v 37)) (.ite (.v 38)
  (.ret [(false, [(.c (.b false))])])
  (.loop [(.c (.i .i64 0)), (.c (.i .i64 0))]
  (.lt (.len (.v 0)) (.lt (.bin .lss (.v 40) (.v 41)) (.ite (.v 42)
  (.chk (.inb (.idx (.app 1 (.cat (.one [(.v 29)]) (.one [(.v 30)])) (.one [(.v 31)])) (.v 34) 0) (.v 40) 45) (.chk (.inb (.v 0) (.v 40) 45) (.lt (.un .not (.ite (.eqt true (.idx (.idx (.app 1 (.cat (.one [(.v 29)]) (.one [(.v 30)])) (.one [(.v 31)])) (.v 34) 0) (.v 40) 0) (.idx (.v 0) (.v 40) 0)) (.ite (.eqt false (.idx (.idx (.app 1 (.cat (.one [(.v 29)]) (.one [(.v 30)])) (.one [(.v 31)])) (.v 34) 0) (.v 40) 1) (.idx (.v 0) (.v 40) 1)) (.ite (.eqt true (.idx (.idx (.app 1 (.cat (.one [(.v 29)]) (.one [(.v 30)])) (.one [(.v 31)])) (.v 34) 0) (.v 40) 2) (.idx (.v 0) (.v 40) 2)) (.ite (.eqt false (.idx (.idx (.app 1 (.cat (.one [(.v 29)]) (.one [(.v 30)])) (.one [(.v 31)])) (.v 34) 0) (.v 40) 3) (.idx (.v 0) (.v 40) 3)) (.ite (.eqt false (.idx (.idx (.app 1 (.cat (.one [(.v 29)]) (.one [(.v 30)])) (.one [(.v 31)])) (.v 34) 0) (.v 40) 4) (.idx (.v 0) (.v 40) 4)) (.ite (.eqt false (.idx (.idx (.app 1 (.cat (.one [(.v 29)]) (.one [(.v 30)])) (.one [(.v 31)])) (.v 34) 0) (.v 40) 5) (.idx (.v 0) (.v 40) 5)) (.ite (.eqt true (.idx (.idx (.app 1 (.cat (.one [(.v 29)]) (.one [(.v 30)])) (.one [(.v 31)])) (.v 34) 0) (.v 40) 6) (.idx (.v 0) (.v 40) 6)) (.ite (.eqt true (.idx (.idx (.app 1 (.cat (.one [(.v 29)]) (.one [(.v 30)])) (.one [(.v 31)])) (.v 34) 0) (.v 40) 7) (.idx (.v 0) (.v 40) 7)) (.ite (.eqt true (.idx (.idx (.app 1 (.cat (.one [(.v 29)]) (.one [(.v 30)])) (.one [(.v 31)])) (.v 34) 0) (.v 40) 8) (.idx (.v 0) (.v 40) 8)) (.ite (.eqt true (.idx (.idx (.app 1 (.cat (.one [(.v 29)]) (.one [(.v 30)])) (.one [(.v 31)])) (.v 34) 0) (.v 40) 9) (.idx (.v 0) (.v 40) 9)) (.ite (.eqt true (.idx (.idx (.app 1 (.cat (.one [(.v 29)]) (.one [(.v 30)])) (.one [(.v 31)])) (.v 34) 0) (.v 40) 10) (.idx (.v 0) (.v 40) 10)) (.ite (.eqt true (.idx (.idx (.app 1 (.cat (.one [(.v 29)]) (.one [(.v 30)])) (.one [(.v 31)])) (.v 34) 0) (.v 40) 11) (.idx (.v 0) (.v 40) 11)) (.ite (.eqt false (.idx (.idx (.app 1 (.cat (.one [(.v 29)]) (.one [(.v 30)])) (.one [(.v 31)])) (.v 34) 0) (.v 40) 12) (.idx (.v 0) (.v 40) 12)) (.ite (.eqt true (.idx (.idx (.app 1 (.cat (.one [(.v 29)]) (.one [(.v 30)])) (.one [(.v 31)])) (.v 34) 0) (.v 40) 13) (.idx (.v 0) (.v 40) 13)) (.ite (.eqt false (.idx (.idx (.app 1 (.cat (.one [(.v 29)]) (.one [(.v 30)])) (.one [(.v 31)])) (.v 34) 0) (.v 40) 14) (.idx (.v 0) (.v 40) 14)) (.ite (.eqt false (.idx (.idx (.app 1 (.cat (.one [(.v 29)]) (.one [(.v 30)])) (.one [(.v 31)])) (.v 34) 0) (.v 40) 15) (.idx (.v 0) (.v 40) 15)) (.ite (.eqt false (.idx (.idx (.app 1 (.cat (.one [(.v 29)]) (.one [(.v 30)])) (.one [(.v 31)])) (.v 34) 0) (.v 40) 16) (.idx (.v 0) (.v 40) 16)) (.ite (.eqt true (.idx (.idx (.app 1 (.cat (.one [(.v 29)]) (.one [(.v 30)])) (.one [(.v 31)])) (.v 34) 0) (.v 40) 17) (.idx (.v 0) (.v 40) 17)) (.ite (.eqt true (.idx (.idx (.app 1 (.cat (.one [(.v 29)]) (.one [(.v 30)])) (.one [(.v 31)])) (.v 34) 0) (.v 40) 18) (.idx (.v 0) (.v 40) 18)) (.ite (.eqt true (.idx (.idx (.app 1 (.cat (.one [(.v 29)]) (.one [(.v 30)])) (.one [(.v 31)])) (.v 34) 0) (.v 40) 19) (.idx (.v 0) (.v 40) 19)) (.ite (.eqt true (.idx (.idx (.app 1 (.cat (.one [(.v 29)]) (.one [(.v 30)])) (.one [(.v 31)])) (.v 34) 0) (.v 40) 20) (.idx (.v 0) (.v 40) 20)) (.ite (.eqt true (.idx (.idx (.app 1 (.cat (.one [(.v 29)]) (.one [(.v 30)])) (.one [(.v 31)])) (.v 34) 0) (.v 40) 21) (.idx (.v 0) (.v 40) 21)) (.ite (.eqt true (.idx (.idx (.app 1 (.cat (.one [(.v 29)]) (.one [(.v 30)])) (.one [(.v 31)])) (.v 34) 0) (.v 40) 22) (.idx (.v 0) (.v 40) 22)) (.ite (.eqt false (.idx (.idx (.app 1 (.cat (.one [(.v 29)]) (.one [(.v 30)])) (.one [(.v 31)])) (.v 34) 0) (.v 40) 23) (.idx (.v 0) (.v 40) 23)) (.ite (.eqt true (.idx (.idx (.app 1 (.cat (.one [(.v 29)]) (.one [(.v 30)])) (.one [(.v 31)])) (.v 34) 0) (.v 40) 24) (.idx (.v 0) (.v 40) 24)) (.ite (.eqt false (.idx (.idx (.app 1 (.cat (.one [(.v 29)]) (.one [(.v 30)])) (.one [(.v 31)])) (.v 34) 0) (.v 40) 25) (.idx (.v 0) (.v 40) 25)) (.ite (.eqt false (.idx (.idx (.app 1 (.cat (.one [(.v 29)]) (.one [(.v 30)])) (.one [(.v 31)])) (.v 34) 0) (.v 40) 26) (.idx (.v 0) (.v 40) 26)) (.ite (.eqt false (.idx (.idx (.app 1 (.cat (.one [(.v 29)]) (.one [(.v 30)])) (.one [(.v 31)])) (.v 34) 0) (.v 40) 27) (.idx (.v 0) (.v 40) 27)) (.ite (.eqt true (.idx (.idx (.app 1 (.cat (.one [(.v 29)]) (.one [(.v 30)])) (.one [(.v 31)])) (.v 34) 0) (.v 40) 28) (.idx (.v 0) (.v 40) 28)) (.ite (.eqt true (.idx (.idx (.app 1 (.cat (.one [(.v 29)]) (.one [(.v 30)])) (.one [(.v 31)])) (.v 34) 0) (.v 40) 29) (.idx (.v 0) (.v 40) 29)) (.ite (.eqt true (.idx (.idx (.app 1 (.cat (.one [(.v 29)]) (.one [(.v 30)])) (.one [(.v 31)])) (.v 34) 0) (.v 40) 30) (.idx (.v 0) (.v 40) 30)) (.ite (.eqt true (.idx (.idx (.app 1 (.cat (.one [(.v 29)]) (.one [(.v 30)])) (.one [(.v 31)])) (.v 34) 0) (.v 40) 31) (.idx (.v 0) (.v 40) 31)) (.ite (.eqt true (.idx (.idx (.app 1 (.cat (.one [(.v 29)]) (.one [(.v 30)])) (.one [(.v 31)])) (.v 34) 0) (.v 40) 32) (.idx (.v 0) (.v 40) 32)) (.ite (.eqt true (.idx (.idx (.app 1 (.cat (.one [(.v 29)]) (.one [(.v 30)])) (.one [(.v 31)])) (.v 34) 0) (.v 40) 33) (.idx (.v 0) (.v 40) 33)) (.ite (.eqt false (.idx (.idx (.app 1 (.cat (.one [(.v 29)]) (.one [(.v 30)])) (.one [(.v 31)])) (.v 34) 0) (.v 40) 34) (.idx (.v 0) (.v 40) 34)) (.ite (.eqt true (.idx (.idx (.app 1 (.cat (.one [(.v 29)]) (.one [(.v 30)])) (.one [(.v 31)])) (.v 34) 0) (.v 40) 35) (.idx (.v 0) (.v 40) 35)) (.ite (.eqt false (.idx (.idx (.app 1 (.cat (.one [(.v 29)]) (.one [(.v 30)])) (.one [(.v 31)])) (.v 34) 0) (.v 40) 36) (.idx (.v 0) (.v 40) 36)) (.ite (.eqt false (.idx (.idx (.app 1 (.cat (.one [(.v 29)]) (.one [(.v 30)])) (.one [(.v 31)])) (.v 34) 0) (.v 40) 37) (.idx (.v 0) (.v 40) 37)) (.ite (.eqt false (.idx (.idx (.app 1 (.cat (.one [(.v 29)]) (.one [(.v 30)])) (.one [(.v 31)])) (.v 34) 0) (.v 40) 38) (.idx (.v 0) (.v 40) 38)) (.ite (.eqt true (.idx (.idx (.app 1 (.cat (.one [(.v 29)]) (.one [(.v 30)])) (.one [(.v 31)])) (.v 34) 0) (.v 40) 39) (.idx (.v 0) (.v 40) 39)) (.ite (.eqt true (.idx (.idx (.app 1 (.cat (.one [(.v 29)]) (.one [(.v 30)])) (.one [(.v 31)])) (.v 34) 0) (.v 40) 40) (.idx (.v 0) (.v 40) 40)) (.ite (.eqt true (.idx (.idx (.app 1 (.cat (.one [(.v 29)]) (.one [(.v 30)])) (.one [(.v 31)])) (.v 34) 0) (.v 40) 41) (.idx (.v 0) (.v 40) 41)) (.ite (.eqt true (.idx (.idx (.app 1 (.cat (.one [(.v 29)]) (.one [(.v 30)])) (.one [(.v 31)])) (.v 34) 0) (.v 40) 42) (.idx (.v 0) (.v 40) 42)) (.ite (.eqt true (.idx (.idx (.app 1 (.cat (.one [(.v 29)]) (.one [(.v 30)])) (.one [(.v 31)])) (.v 34) 0) (.v 40) 43) (.idx (.v 0) (.v 40) 43)) (.ite (.eqt false (.idx (.idx (.app 1 (.cat (.one [(.v 29)]) (.one [(.v 30)])) (.one [(.v 31)])) (.v 34) 0) (.v 40) 44) (.idx (.v 0) (.v 40) 44)) (.c (.b true)) (.c (.b false))) (.c (.b false))) (.c (.b false))) (.c (.b false))) (.c (.b false))) (.c (.b false))) (.c (.b false))) (.c (.b false))) (.c (.b false))) (.c (.b false))) (.c (.b false))) (.c (.b false))) (.c (.b false))) (.c (.b false))) (.c (.b false))) (.c (.b false))) (.c (.b false))) (.c (.b false))) (.c (.b false))) (.c (.b false))) (.c (.b false))) (.c (.b false))) (.c (.b false))) (.c (.b false))) (.c (.b false))) (.c (.b false))) (.c (.b false))) (.c (.b false))) (.c (.b false))) (.c (.b false))) (.c (.b false))) (.c (.b false))) (.c (.b false))) (.c (.b false))) (.c (.b false))) (.c (.b false))) (.c (.b false))) (.c (.b false))) (.c (.b false))) (.c (.b false))) (.c (.b false))) (.c (.b false))) (.c (.b false))) (.c (.b false))) (.c (.b false)))) (.ite (.v 43)
  (.lt (.bin .add (.v 39) (.c (.i .i64 1))) (.lt (.bin .add (.v 40) (.c (.i .i64 1))) (.cont 1 [(.v 44), (.v 45)])))
  (.lt (.bin .add (.v 40) (.c (.i .i64 1))) (.cont 1 [(.v 39), (.v 44)]))))))
  (.lt (.bin .gtr (.v 39) (.c (.i .i64 1))) (.ite (.v 43)
  (.ret [(false, [(.c (.b false))])])
  (.call 27 [(true, [(.idx (.app 1 (.cat (.one [(.v 29)]) (.one [(.v 30)])) (.one [(.v 31)])) (.v 34) 0)])] [(false, 1)]
  (.lt (.len (.v 44)) (.call 27 [(true, [(.v 0)])] [(false, 1)]
  (.lt (.len (.v 46)) (.lt (.bin .add (.v 47) (.c (.i .i64 1))) (.lt (.bin .gtr (.v 45) (.v 48)) (.ite (.v 49)
  (.ret [(false, [(.c (.b false))])])
  (.call 10 [(true, [(.idx (.app 1 (.cat (.one [(.v 29)]) (.one [(.v 30)])) (.one [(.v 31)])) (.v 34) 0)])] [(false, 1)]
  (.lt (.un .not (.v 50)) (.ite (.v 51)
  (.ret [(false, [(.c (.b false))])])
  (.lt (.bin .add (.v 34) (.c (.i .i64 1))) (.cont 0 [(.v 33), (.v 52)]))))))))))))))))))))))))
  (.call 19 [(true, [(.v 31)])] [(false, 1)]
  (.chk (.inb (.v 0) (.v 26) 45) (.ite (.bin .eql (.v 28) (.c (.i .i64 0)))
  (.ite (.idx (.v 0) (.v 26) 0)
  (.lt (.bin .eql (.v 32) (.c (.i .i64 0))) (.ite (.v 37)
  (.lt (.len (.v 36)) (.call 27 [(true, [(.v 0)])] [(false, 1)]
  (.lt (.len (.v 39)) (.lt (.bin .sub (.v 40) (.c (.i .i64 1))) (.lt (.bin .eql (.v 38) (.v 41)) (.ite (.v 42)
  (.chk (.inb (.v 31) (.v 26) 45) (.lt (.un .not (.idx (.v 31) (.v 26) 0)) (.ret [(false, [(.v 43)])])))
  (.ret [(false, [(.c (.b false))])])))))))
  (.ret [(false, [(.c (.b false))])])))
  (.lt (.bin .eql (.v 32) (.c (.i .i64 0))) (.ite (.v 37)
  (.lt (.len (.v 36)) (.call 27 [(true, [(.v 0)])] [(false, 1)]
  (.lt (.len (.v 39)) (.lt (.bin .sub (.v 40) (.c (.i .i64 0))) (.lt (.bin .eql (.v 38) (.v 41)) (.ite (.v 42)
  (.chk (.inb (.v 31) (.v 26) 45) (.lt (.un .not (.idx (.v 31) (.v 26) 0)) (.ret [(false, [(.v 43)])])))
  (.ret [(false, [(.c (.b false))])])))))))
  (.ret [(false, [(.c (.b false))])]))))
  (.ite (.bin .eql (.v 28) (.c (.i .i64 1)))
  (.ite (.idx (.v 0) (.v 26) 11)
  (.lt (.bin .eql (.v 32) (.c (.i .i64 0))) (.ite (.v 37)
  (.lt (.len (.v 36)) (.call 27 [(true, [(.v 0)])] [(false, 1)]
  (.lt (.len (.v 39)) (.lt (.bin .sub (.v 40) (.c (.i .i64 1))) (.lt (.bin .eql (.v 38) (.v 41)) (.ite (.v 42)
  (.chk (.inb (.v 31) (.v 26) 45) (.lt (.un .not (.idx (.v 31) (.v 26) 11)) (.ret [(false, [(.v 43)])])))
  (.ret [(false, [(.c (.b false))])])))))))
  (.ret [(false, [(.c (.b false))])])))
  (.lt (.bin .eql (.v 32) (.c (.i .i64 0))) (.ite (.v 37)
  (.lt (.len (.v 36)) (.call 27 [(true, [(.v 0)])] [(false, 1)]
  (.lt (.len (.v 39)) (.lt (.bin .sub (.v 40) (.c (.i .i64 0))) (.lt (.bin .eql (.v 38) (.v 41)) (.ite (.v 42)
  (.chk (.inb (.v 31) (.v 26) 45) (.lt (.un .not (.idx (.v 31) (.v 26) 11)) (.ret [(false, [(.v 43)])])))
  (.ret [(false, [(.c (.b false))])])))))))
  (.ret [(false, [(.c (.b false))])]))))
  (.ite (.bin .eql (.v 28) (.c (.i .i64 2)))
  (.ite (.idx (.v 0) (.v 26) 22)
  (.lt (.bin .eql (.v 32) (.c (.i .i64 0))) (.ite (.v 37)
  (.lt (.len (.v 36)) (.call 27 [(true, [(.v 0)])] [(false, 1)]
  (.lt (.len (.v 39)) (.lt (.bin .sub (.v 40) (.c (.i .i64 1))) (.lt (.bin .eql (.v 38) (.v 41)) (.ite (.v 42)
  (.chk (.inb (.v 31) (.v 26) 45) (.lt (.un .not (.idx (.v 31) (.v 26) 22)) (.ret [(false, [(.v 43)])])))
  (.ret [(false, [(.c (.b false))])])))))))
  (.ret [(false, [(.c (.b false))])])))
  (.lt (.bin .eql (.v 32) (.c (.i .i64 0))) (.ite (.v 37)
  (.lt (.len (.v 36)) (.call 27 [(true, [(.v 0)])] [(false, 1)]
  (.lt (.len (.v 39)) (.lt (.bin .sub (.v 40) (.c (.i .i64 0))) (.lt (.bin .eql (.v 38) (.v 41)) (.ite (.v 42)
  (.chk (.inb (.v 31) (.v 26) 45) (.lt (.un .not (.idx (.v 31) (.v 26) 22)) (.ret [(false, [(.v 43)])])))
  (.ret [(false, [(.c (.b false))])])))))))
  (.ret [(false, [(.c (.b false))])]))))
  (.ite (.bin .eql (.v 28) (.c (.i .i64 3)))
  (.ite (.idx (.v 0) (.v 26) 33)
  (.lt (.bin .eql (.v 32) (.c (.i .i64 0))) (.ite (.v 37)
  (.lt (.len (.v 36)) (.call 27 [(true, [(.v 0)])] [(false, 1)]
  (.lt (.len (.v 39)) (.lt (.bin .sub (.v 40) (.c (.i .i64 1))) (.lt (.bin .eql (.v 38) (.v 41)) (.ite (.v 42)
  (.chk (.inb (.v 31) (.v 26) 45) (.lt (.un .not (.idx (.v 31) (.v 26) 33)) (.ret [(false, [(.v 43)])])))
  (.ret [(false, [(.c (.b false))])])))))))
  (.ret [(false, [(.c (.b false))])])))
  (.lt (.bin .eql (.v 32) (.c (.i .i64 0))) (.ite (.v 37)
  (.lt (.len (.v 36)) (.call 27 [(true, [(.v 0)])] [(false, 1)]
  (.lt (.len (.v 39)) (.lt (.bin .sub (.v 40) (.c (.i .i64 0))) (.lt (.bin .eql (.v 38) (.v 41)) (.ite (.v 42)
  (.chk (.inb (.v 31) (.v 26) 45) (.lt (.un .not (.idx (.v 31) (.v 26) 33)) (.ret [(false, [(.v 43)])])))
  (.ret [(false, [(.c (.b false))])])))))))
  (.ret [(false, [(.c (.b false))])]))))
  (.chk (.c (.b false)) (.ret []))))))))))))))))))))))))))))))))))
theorem atlaslaw14_TlbOne_c : compile envIrTla 3000 7 = .ok atlaslaw14_TlbOne_ir := by kernel_rfl
theorem atlaslaw14_TlbOne_p : paramShape Tryd.prog 7 = some [(true, 1), (true, 11), (false, 1), (false, 1), (false, 1)] := by kernel_rfl
theorem atlaslaw14_TlbOne_k : Known gAll 7 (.ir [(true, 1), (true, 11), (false, 1), (false, 1), (false, 1)] atlaslaw14_TlbOne_ir) := known_ir (E := envIrTla) (n := 3000) rfl rfl atlaslaw14_TlbOne_c atlaslaw14_TlbOne_p
/-- atlas/atlaslaw14.awake -/
def atlaslaw14_awake_ir : IR :=
  (.call 18 [(false, [(.c (.i .i64 2))])] [(true, 1), (false, 1)]
  (.call 18 [(false, [(.c (.i .i64 17))])] [(true, 1), (false, 1)]
  (.call 13 [(true, [(.v 0)]), (true, [(.c (.b true)), (.c (.i .u64 0)), (.c (.b false)), (.c (.i .i64 0)), (.c (.i .u64 4)), (.c (.i .u64 0)), (.c (.b false)), (.c (.b false)), (.c (.b false)), (.c (.b false)), (.c (.b false))]), (false, [(.c (.i .i64 (-1)))])] [(true, 1)]
  (.call 13 [(true, [(.v 4)]), (true, [(.c (.b true)), (.c (.i .u64 1)), (.c (.b false)), (.c (.i .i64 0)), (.c (.i .u64 6)), (.c (.i .u64 0)), (.c (.b false)), (.c (.b false)), (.c (.b false)), (.c (.b false)), (.c (.b false))]), (false, [(.c (.i .i64 (-1)))])] [(true, 1)]
  (.call 15 [(true, [(.v 5)]), (false, [(.c (.i .u64 1))]), (false, [(.c (.i .u64 24577))])] [(true, 11), (false, 1), (false, 1), (false, 1)]
  (.call 15 [(true, [(.v 5)]), (false, [(.c (.i .u64 1))]), (false, [(.c (.i .u64 16384))])] [(true, 11), (false, 1), (false, 1), (false, 1)]
  (.call 23 [(true, [(.v 5)]), (false, [(.c (.i .i64 0))]), (false, [(.c (.i .i64 0))])] [(true, 1), (false, 1)]
  (.call 23 [(true, [(.v 5)]), (false, [(.c (.i .i64 2))]), (false, [(.c (.i .i64 0))])] [(true, 1), (false, 1)]
  (.call 18 [(false, [(.c (.i .i64 0))])] [(true, 1), (false, 1)]
  (.lt (.bin .eql (.v 1) (.c (.i .i64 0))) (.ite (.v 40)
  (.lt (.bin .eql (.v 3) (.c (.i .i64 1))) (.ite (.v 41)
  (.lt (.len (.v 0)) (.lt (.bin .eql (.v 42) (.c (.i .i64 2))) (.ite (.v 43)
  (.lt (.bin .eql (.v 10) (.c (.i .u64 6))) (.ite (.v 44)
  (.lt (.bin .eql (.v 17) (.c (.i .i64 0))) (.ite (.v 45)
  (.lt (.bin .eql (.v 18) (.c (.i .i64 1))) (.ite (.v 46)
  (.ite (.v 19)
  (.lt (.un .not (.v 33)) (.ite (.v 47)
  (.lt (.bin .eql (.v 35) (.c (.i .i64 0))) (.ite (.v 48)
  (.call 19 [(true, [(.v 34)])] [(false, 1)]
  (.lt (.len (.v 49)) (.lt (.bin .eql (.v 50) (.c (.i .i64 1))) (.ite (.v 51)
  (.lt (.bin .eql (.v 37) (.c (.i .i64 1))) (.ite (.v 52)
  (.call 13 [(true, [(.v 38)]), (true, (vr 6 11)), (false, [(.c (.i .i64 (-1)))])] [(true, 1)]
  (.call 19 [(true, [(.v 53)])] [(false, 1)]
  (.lt (.len (.v 54)) (.lt (.bin .eql (.v 55) (.c (.i .i64 0))) (.ite (.v 56)
  (.call 14 [(true, [(.v 5)])] [(false, 1)]
  (.ite (.v 57)
  (.chk (.room (.c (.i .i64 17)) 233) (.call 14 [(true, [(.mk (.c (.i .i64 17)) [(.c (.b false)), (.c (.i .u64 0)), (.c (.b false)), (.c (.i .i64 0)), (.c (.i .u64 0)), (.c (.i .u64 0)), (.c (.b false)), (.c (.b false)), (.c (.b false)), (.c (.b false)), (.c (.b false)), (.c (.b false)), (.c (.i .u64 0)), (.c (.b false)), (.c (.i .i64 0)), (.c (.i .u64 0)), (.c (.i .u64 0)), (.c (.b false)), (.c (.b false)), (.c (.b false)), (.c (.b false)), (.c (.b false)), (.c (.b false)), (.c (.i .u64 0)), (.c (.b false)), (.c (.i .i64 0)), (.c (.i .u64 0)), (.c (.i .u64 0)), (.c (.b false)), (.c (.b false)), (.c (.b false)), (.c (.b false)), (.c (.b false)), (.c (.b false)), (.c (.i .u64 0)), (.c (.b false)), (.c (.i .i64 0)), (.c (.i .u64 0)), (.c (.i .u64 0)), (.c (.b false)), (.c (.b false)), (.c (.b false)), (.c (.b false)), (.c (.b false)), (.c (.i .u8 0))])])] [(false, 1)]
  (.chk (.eqt true (.v 58) (.v 58)) (.lt (.un .not (.v 58)) (.ret [(false, [(.v 59)])])))))
  (.ret [(false, [(.c (.b false))])])))
  (.ret [(false, [(.c (.b false))])]))))))
  (.ret [(false, [(.c (.b false))])])))
  (.ret [(false, [(.c (.b false))])])))))
  (.ret [(false, [(.c (.b false))])])))
  (.ret [(false, [(.c (.b false))])])))
  (.ret [(false, [(.c (.b false))])]))
  (.ret [(false, [(.c (.b false))])])))
  (.ret [(false, [(.c (.b false))])])))
  (.ret [(false, [(.c (.b false))])])))
  (.ret [(false, [(.c (.b false))])]))))
  (.ret [(false, [(.c (.b false))])])))
  (.ret [(false, [(.c (.b false))])]))))))))))))
theorem atlaslaw14_awake_c : compile envIrTla 3000 9 = .ok atlaslaw14_awake_ir := by kernel_rfl
theorem atlaslaw14_awake_p : paramShape Tryd.prog 9 = some [] := by kernel_rfl
theorem atlaslaw14_awake_k : Known gAll 9 (.ir [] atlaslaw14_awake_ir) := known_ir (E := envIrTla) (n := 3000) rfl rfl atlaslaw14_awake_c atlaslaw14_awake_p
def TIrTl : Tbl :=
  (3, .ir [(true, 1), (true, 11), (false, 1), (false, 1), (false, 1)] atlaslaw14_TlbFinds_ir) ::
  (5, .ir [(true, 1), (false, 1), (false, 1), (false, 1)] atlaslaw14_TlbAsid_ir) ::
  (6, .ir [(true, 1), (true, 11), (false, 1), (false, 1), (false, 1), (false, 1), (false, 1), (false, 1)] atlaslaw14_TlbDoes_ir) ::
  (4, .ir [(false, 1), (false, 1), (false, 1)] atlaslaw14_TlbUnlike_ir) ::
  (7, .ir [(true, 1), (true, 11), (false, 1), (false, 1), (false, 1)] atlaslaw14_TlbOne_ir) ::
  (9, .ir [] atlaslaw14_awake_ir) ::
  []
theorem TIrTl_ok : ∀ x ∈ TIrTl, Known gAll x.1 x.2 :=
  kcons atlaslaw14_TlbFinds_k <|
  kcons atlaslaw14_TlbAsid_k <|
  kcons atlaslaw14_TlbDoes_k <|
  kcons atlaslaw14_TlbUnlike_k <|
  kcons atlaslaw14_TlbOne_k <|
  kcons atlaslaw14_awake_k <|
  fun _ h => nomatch h
end Go.Proofs.YtmjhghclgockjaaDoor.Sx
