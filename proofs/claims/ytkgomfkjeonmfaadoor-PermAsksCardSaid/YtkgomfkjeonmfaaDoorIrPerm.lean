/-
  IRs of functions, printed by a program of mine (wip/tools/mkir.sh, ev.lean.txt); each is checked by the kernel against the executor.
-/
import Derived.Test.YtkgomfkjeonmfaaDoorRun
import Derived.Test.YtkgomfkjeonmfaaDoorProg
namespace Go.Proofs.YtkgomfkjeonmfaaDoor.Sx
open Go
set_option maxRecDepth 100000
noncomputable def envIrPerm : Env := { P := Tryd.prog, G := gPerm, inl := [], unr := [] }

/-- atlas/atlaslaw08.PermAsks -/
def atlaslaw08_PermAsks_ir : IR :=
  (.call 7 [] [(false, 1)]
  (.lt (.un .not (.v 12)) (.ite (.v 13)
  (.ret [(false, [(.c (.b false))])])
  (.call 8 [(true, [(.v 8), (.v 9), (.v 10), (.v 11)])] [(false, 1)]
  (.call 9 [(true, [(.v 8), (.v 9), (.v 10), (.v 11)])] [(false, 1)]
  (.lt (.un .not (.eqt true (.v 14) (.v 15))) (.ite (.v 16)
  (.ret [(false, [(.c (.b false))])])
  (.call 10 [(true, [(.v 0), (.v 1), (.v 2), (.v 3)])] [(false, 1)]
  (.call 11 [(true, [(.v 0), (.v 1), (.v 2), (.v 3)])] [(false, 1)]
  (.lt (.un .not (.eqt true (.v 17) (.v 18))) (.ite (.v 19)
  (.ret [(false, [(.c (.b false))])])
  (.call 12 [(true, [(.v 0), (.v 1), (.v 2), (.v 3)]), (true, [(.v 4), (.v 5), (.v 6), (.v 7)])] [(false, 1)]
  (.call 13 [(true, [(.v 0), (.v 1), (.v 2), (.v 3)]), (true, [(.v 4), (.v 5), (.v 6), (.v 7)])] [(false, 1)]
  (.lt (.un .not (.eqt true (.v 20) (.v 21))) (.ite (.v 22)
  (.ret [(false, [(.c (.b false))])])
  (.call 9 [(true, [(.v 8), (.v 9), (.v 10), (.v 11)])] [(false, 1)]
  (.lt (.un .not (.v 23)) (.ite (.v 24)
  (.ret [(false, [(.c (.b true))])])
  (.call 14 [(true, [(.v 0), (.v 1), (.v 2), (.v 3)]), (true, [(.v 8), (.v 9), (.v 10), (.v 11)])] [(false, 1)]
  (.call 15 [(true, [(.v 0), (.v 1), (.v 2), (.v 3)]), (true, [(.v 8), (.v 9), (.v 10), (.v 11)])] [(false, 1)]
  (.lt (.eqt true (.v 25) (.v 26)) (.ret [(false, [(.v 27)])]))))))))))))))))))))))
theorem atlaslaw08_PermAsks_c : compile envIrPerm 3000 3 = .ok atlaslaw08_PermAsks_ir := by kernel_rfl
theorem atlaslaw08_PermAsks_p : paramShape Tryd.prog 3 = some [(true, 4), (true, 4), (true, 4)] := by kernel_rfl
theorem atlaslaw08_PermAsks_k : Known gPerm 3 [(true, 4), (true, 4), (true, 4)] atlaslaw08_PermAsks_ir := ⟨envIrPerm, 3000, rfl, rfl, atlaslaw08_PermAsks_c, atlaslaw08_PermAsks_p⟩
/-- atlas/atlaslaw08.PermDecides -/
def atlaslaw08_PermDecides_ir : IR :=
  (.call 7 [] [(false, 1)]
  (.lt (.un .not (.v 1)) (.ite (.v 2)
  (.ret [(false, [(.c (.b false))])])
  (.call 16 [(false, [(.v 0)])] [(true, 4)]
  (.loop [(.c (.b false)), (.c (.i .u8 0))]
  (.lt (.bin .lss (.v 8) (.c (.i .u8 24))) (.ite (.v 9)
  (.call 17 [(false, [(.v 8)])] [(true, 4)]
  (.lt (.bin .sub (.c (.i .i64 1)) (.v 11)) (.call 14 [(true, [(.v 3), (.v 4), (.v 5), (.v 6)]), (true, [(.v 10), (.v 11), (.v 12), (.v 13)])] [(false, 1)]
  (.ite (.v 15)
  (.call 14 [(true, [(.v 3), (.v 4), (.v 5), (.v 6)]), (true, [(.v 10), (.v 11), (.c (.b true)), (.c (.b true))])] [(false, 1)]
  (.lt (.un .not (.v 16)) (.ite (.v 17)
  (.ret [(false, [(.c (.b false))])])
  (.lt (.bin .eql (.v 10) (.c (.i .i64 0))) (.ite (.v 18)
  (.call 14 [(true, [(.v 3), (.v 4), (.v 5), (.v 6)]), (true, [(.v 10), (.v 11), (.v 12), (.v 13)])] [(false, 1)]
  (.ite (.v 19)
  (.call 14 [(true, [(.v 3), (.v 4), (.v 5), (.v 6)]), (true, [(.v 10), (.v 14), (.v 12), (.v 13)])] [(false, 1)]
  (.ite (.v 20)
  (.ret [(false, [(.c (.b false))])])
  (.loop [(.v 7), (.c (.i .u8 0))]
  (.lt (.bin .lss (.v 22) (.c (.i .u8 16))) (.ite (.v 23)
  (.call 16 [(false, [(.v 22)])] [(true, 4)]
  (.call 12 [(true, [(.v 3), (.v 4), (.v 5), (.v 6)]), (true, [(.v 24), (.v 25), (.v 26), (.v 27)])] [(false, 1)]
  (.lt (.un .not (.v 28)) (.ite (.v 29)
  (.call 16 [(false, [(.v 22)])] [(true, 4)]
  (.call 14 [(true, [(.v 30), (.v 31), (.v 32), (.v 33)]), (true, [(.v 10), (.v 11), (.v 12), (.v 13)])] [(false, 1)]
  (.ite (.v 34)
  (.call 14 [(true, [(.v 3), (.v 4), (.v 5), (.v 6)]), (true, [(.v 10), (.v 11), (.v 12), (.v 13)])] [(false, 1)]
  (.lt (.un .not (.v 35)) (.ite (.v 36)
  (.ret [(false, [(.c (.b false))])])
  (.lt (.bin .add (.v 22) (.c (.i .u8 1))) (.cont 1 [(.v 21), (.v 37)])))))
  (.lt (.bin .add (.v 22) (.c (.i .u8 1))) (.cont 1 [(.v 21), (.v 35)])))))
  (.lt (.bin .add (.v 22) (.c (.i .u8 1))) (.cont 1 [(.v 21), (.v 30)]))))))
  (.lt (.bin .add (.v 8) (.c (.i .u8 1))) (.cont 0 [(.v 21), (.v 24)])))))))
  (.loop [(.v 7), (.c (.i .u8 0))]
  (.lt (.bin .lss (.v 21) (.c (.i .u8 16))) (.ite (.v 22)
  (.call 16 [(false, [(.v 21)])] [(true, 4)]
  (.call 12 [(true, [(.v 3), (.v 4), (.v 5), (.v 6)]), (true, [(.v 23), (.v 24), (.v 25), (.v 26)])] [(false, 1)]
  (.lt (.un .not (.v 27)) (.ite (.v 28)
  (.call 16 [(false, [(.v 21)])] [(true, 4)]
  (.call 14 [(true, [(.v 29), (.v 30), (.v 31), (.v 32)]), (true, [(.v 10), (.v 11), (.v 12), (.v 13)])] [(false, 1)]
  (.ite (.v 33)
  (.call 14 [(true, [(.v 3), (.v 4), (.v 5), (.v 6)]), (true, [(.v 10), (.v 11), (.v 12), (.v 13)])] [(false, 1)]
  (.lt (.un .not (.v 34)) (.ite (.v 35)
  (.ret [(false, [(.c (.b false))])])
  (.lt (.bin .add (.v 21) (.c (.i .u8 1))) (.cont 1 [(.v 20), (.v 36)])))))
  (.lt (.bin .add (.v 21) (.c (.i .u8 1))) (.cont 1 [(.v 20), (.v 34)])))))
  (.lt (.bin .add (.v 21) (.c (.i .u8 1))) (.cont 1 [(.v 20), (.v 29)]))))))
  (.lt (.bin .add (.v 8) (.c (.i .u8 1))) (.cont 0 [(.v 20), (.v 23)])))))))
  (.loop [(.v 7), (.c (.i .u8 0))]
  (.lt (.bin .lss (.v 20) (.c (.i .u8 16))) (.ite (.v 21)
  (.call 16 [(false, [(.v 20)])] [(true, 4)]
  (.call 12 [(true, [(.v 3), (.v 4), (.v 5), (.v 6)]), (true, [(.v 22), (.v 23), (.v 24), (.v 25)])] [(false, 1)]
  (.lt (.un .not (.v 26)) (.ite (.v 27)
  (.call 16 [(false, [(.v 20)])] [(true, 4)]
  (.call 14 [(true, [(.v 28), (.v 29), (.v 30), (.v 31)]), (true, [(.v 10), (.v 11), (.v 12), (.v 13)])] [(false, 1)]
  (.ite (.v 32)
  (.call 14 [(true, [(.v 3), (.v 4), (.v 5), (.v 6)]), (true, [(.v 10), (.v 11), (.v 12), (.v 13)])] [(false, 1)]
  (.lt (.un .not (.v 33)) (.ite (.v 34)
  (.ret [(false, [(.c (.b false))])])
  (.lt (.bin .add (.v 20) (.c (.i .u8 1))) (.cont 1 [(.v 19), (.v 35)])))))
  (.lt (.bin .add (.v 20) (.c (.i .u8 1))) (.cont 1 [(.v 19), (.v 33)])))))
  (.lt (.bin .add (.v 20) (.c (.i .u8 1))) (.cont 1 [(.v 19), (.v 28)]))))))
  (.lt (.bin .add (.v 8) (.c (.i .u8 1))) (.cont 0 [(.v 19), (.v 22)]))))))))))
  (.lt (.bin .eql (.v 10) (.c (.i .i64 0))) (.ite (.v 16)
  (.call 14 [(true, [(.v 3), (.v 4), (.v 5), (.v 6)]), (true, [(.v 10), (.v 11), (.v 12), (.v 13)])] [(false, 1)]
  (.ite (.v 17)
  (.call 14 [(true, [(.v 3), (.v 4), (.v 5), (.v 6)]), (true, [(.v 10), (.v 14), (.v 12), (.v 13)])] [(false, 1)]
  (.ite (.v 18)
  (.ret [(false, [(.c (.b false))])])
  (.loop [(.v 7), (.c (.i .u8 0))]
  (.lt (.bin .lss (.v 20) (.c (.i .u8 16))) (.ite (.v 21)
  (.call 16 [(false, [(.v 20)])] [(true, 4)]
  (.call 12 [(true, [(.v 3), (.v 4), (.v 5), (.v 6)]), (true, [(.v 22), (.v 23), (.v 24), (.v 25)])] [(false, 1)]
  (.lt (.un .not (.v 26)) (.ite (.v 27)
  (.call 16 [(false, [(.v 20)])] [(true, 4)]
  (.call 14 [(true, [(.v 28), (.v 29), (.v 30), (.v 31)]), (true, [(.v 10), (.v 11), (.v 12), (.v 13)])] [(false, 1)]
  (.ite (.v 32)
  (.call 14 [(true, [(.v 3), (.v 4), (.v 5), (.v 6)]), (true, [(.v 10), (.v 11), (.v 12), (.v 13)])] [(false, 1)]
  (.lt (.un .not (.v 33)) (.ite (.v 34)
  (.ret [(false, [(.c (.b false))])])
  (.lt (.bin .add (.v 20) (.c (.i .u8 1))) (.cont 1 [(.v 19), (.v 35)])))))
  (.lt (.bin .add (.v 20) (.c (.i .u8 1))) (.cont 1 [(.v 19), (.v 33)])))))
  (.lt (.bin .add (.v 20) (.c (.i .u8 1))) (.cont 1 [(.v 19), (.v 28)]))))))
  (.lt (.bin .add (.v 8) (.c (.i .u8 1))) (.cont 0 [(.v 19), (.v 22)])))))))
  (.loop [(.v 7), (.c (.i .u8 0))]
  (.lt (.bin .lss (.v 19) (.c (.i .u8 16))) (.ite (.v 20)
  (.call 16 [(false, [(.v 19)])] [(true, 4)]
  (.call 12 [(true, [(.v 3), (.v 4), (.v 5), (.v 6)]), (true, [(.v 21), (.v 22), (.v 23), (.v 24)])] [(false, 1)]
  (.lt (.un .not (.v 25)) (.ite (.v 26)
  (.call 16 [(false, [(.v 19)])] [(true, 4)]
  (.call 14 [(true, [(.v 27), (.v 28), (.v 29), (.v 30)]), (true, [(.v 10), (.v 11), (.v 12), (.v 13)])] [(false, 1)]
  (.ite (.v 31)
  (.call 14 [(true, [(.v 3), (.v 4), (.v 5), (.v 6)]), (true, [(.v 10), (.v 11), (.v 12), (.v 13)])] [(false, 1)]
  (.lt (.un .not (.v 32)) (.ite (.v 33)
  (.ret [(false, [(.c (.b false))])])
  (.lt (.bin .add (.v 19) (.c (.i .u8 1))) (.cont 1 [(.v 18), (.v 34)])))))
  (.lt (.bin .add (.v 19) (.c (.i .u8 1))) (.cont 1 [(.v 18), (.v 32)])))))
  (.lt (.bin .add (.v 19) (.c (.i .u8 1))) (.cont 1 [(.v 18), (.v 27)]))))))
  (.lt (.bin .add (.v 8) (.c (.i .u8 1))) (.cont 0 [(.v 18), (.v 21)])))))))
  (.loop [(.v 7), (.c (.i .u8 0))]
  (.lt (.bin .lss (.v 18) (.c (.i .u8 16))) (.ite (.v 19)
  (.call 16 [(false, [(.v 18)])] [(true, 4)]
  (.call 12 [(true, [(.v 3), (.v 4), (.v 5), (.v 6)]), (true, [(.v 20), (.v 21), (.v 22), (.v 23)])] [(false, 1)]
  (.lt (.un .not (.v 24)) (.ite (.v 25)
  (.call 16 [(false, [(.v 18)])] [(true, 4)]
  (.call 14 [(true, [(.v 26), (.v 27), (.v 28), (.v 29)]), (true, [(.v 10), (.v 11), (.v 12), (.v 13)])] [(false, 1)]
  (.ite (.v 30)
  (.call 14 [(true, [(.v 3), (.v 4), (.v 5), (.v 6)]), (true, [(.v 10), (.v 11), (.v 12), (.v 13)])] [(false, 1)]
  (.lt (.un .not (.v 31)) (.ite (.v 32)
  (.ret [(false, [(.c (.b false))])])
  (.lt (.bin .add (.v 18) (.c (.i .u8 1))) (.cont 1 [(.v 17), (.v 33)])))))
  (.lt (.bin .add (.v 18) (.c (.i .u8 1))) (.cont 1 [(.v 17), (.v 31)])))))
  (.lt (.bin .add (.v 18) (.c (.i .u8 1))) (.cont 1 [(.v 17), (.v 26)]))))))
  (.lt (.bin .add (.v 8) (.c (.i .u8 1))) (.cont 0 [(.v 17), (.v 20)])))))))))))
  (.ret [(false, [(.c (.b true))])]))))))))
theorem atlaslaw08_PermDecides_c : compile envIrPerm 3000 4 = .ok atlaslaw08_PermDecides_ir := by kernel_rfl
theorem atlaslaw08_PermDecides_p : paramShape Tryd.prog 4 = some [(false, 1)] := by kernel_rfl
theorem atlaslaw08_PermDecides_k : Known gPerm 4 [(false, 1)] atlaslaw08_PermDecides_ir := ⟨envIrPerm, 3000, rfl, rfl, atlaslaw08_PermDecides_c, atlaslaw08_PermDecides_p⟩
/-- atlas/atlaslaw08.PermLess -/
def atlaslaw08_PermLess_ir : IR :=
  (.call 7 [] [(false, 1)]
  (.lt (.un .not (.v 3)) (.ite (.v 4)
  (.ret [(false, [(.c (.b false))])])
  (.call 16 [(false, [(.v 0)])] [(true, 4)]
  (.call 16 [(false, [(.v 1)])] [(true, 4)]
  (.call 16 [(false, [(.v 2)])] [(true, 4)]
  (.call 12 [(true, [(.v 5), (.v 6), (.v 7), (.v 8)]), (true, [(.v 5), (.v 6), (.v 7), (.v 8)])] [(false, 1)]
  (.ite (.v 17)
  (.ret [(false, [(.c (.b false))])])
  (.call 12 [(true, [(.v 5), (.v 6), (.v 7), (.v 8)]), (true, [(.v 9), (.v 10), (.v 11), (.v 12)])] [(false, 1)]
  (.lt (.un .not (.v 18)) (.ite (.v 19)
  (.call 12 [(true, [(.v 9), (.v 10), (.v 11), (.v 12)]), (true, [(.v 13), (.v 14), (.v 15), (.v 16)])] [(false, 1)]
  (.lt (.un .not (.v 20)) (.ite (.v 21)
  (.call 12 [(true, [(.v 5), (.v 6), (.v 7), (.v 8)]), (true, [(.v 13), (.v 14), (.v 15), (.v 16)])] [(false, 1)]
  (.ite (.v 22)
  (.ret [(false, [(.c (.b false))])])
  (.call 12 [(true, [(.v 5), (.v 6), (.v 7), (.v 8)]), (true, [(.v 9), (.v 10), (.v 11), (.v 12)])] [(false, 1)]
  (.lt (.un .not (.v 23)) (.ite (.v 24)
  (.call 12 [(true, [(.v 9), (.v 10), (.v 11), (.v 12)]), (true, [(.v 5), (.v 6), (.v 7), (.v 8)])] [(false, 1)]
  (.lt (.un .not (.v 25)) (.ite (.v 26)
  (.lt (.un .not (.ite (.eqt true (.v 5) (.v 9)) (.ite (.eqt true (.v 6) (.v 10)) (.ite (.eqt true (.v 7) (.v 11)) (.ite (.eqt true (.v 8) (.v 12)) (.c (.b true)) (.c (.b false))) (.c (.b false))) (.c (.b false))) (.c (.b false)))) (.ite (.v 27)
  (.ret [(false, [(.c (.b false))])])
  (.loop [(.c (.b false)), (.c (.i .u8 0))]
  (.lt (.bin .lss (.v 29) (.c (.i .u8 24))) (.ite (.v 30)
  (.ite (.v 28)
  (.lt (.bin .add (.v 29) (.c (.i .u8 1))) (.cont 0 [(.c (.b true)), (.v 31)]))
  (.call 17 [(false, [(.v 29)])] [(true, 4)]
  (.call 14 [(true, [(.v 9), (.v 10), (.v 11), (.v 12)]), (true, [(.v 31), (.v 32), (.v 33), (.v 34)])] [(false, 1)]
  (.ite (.v 35)
  (.call 17 [(false, [(.v 29)])] [(true, 4)]
  (.call 14 [(true, [(.v 5), (.v 6), (.v 7), (.v 8)]), (true, [(.v 36), (.v 37), (.v 38), (.v 39)])] [(false, 1)]
  (.lt (.un .not (.v 40)) (.lt (.bin .add (.v 29) (.c (.i .u8 1))) (.cont 0 [(.v 41), (.v 42)])))))
  (.lt (.bin .add (.v 29) (.c (.i .u8 1))) (.cont 0 [(.c (.b false)), (.v 36)]))))))
  (.lt (.un .not (.v 28)) (.ite (.v 31)
  (.ret [(false, [(.c (.b true))])])
  (.call 12 [(true, [(.v 5), (.v 6), (.v 7), (.v 8)]), (true, [(.v 9), (.v 10), (.v 11), (.v 12)])] [(false, 1)]
  (.ret [(false, [(.v 32)])])))))))))
  (.loop [(.c (.b false)), (.c (.i .u8 0))]
  (.lt (.bin .lss (.v 28) (.c (.i .u8 24))) (.ite (.v 29)
  (.ite (.v 27)
  (.lt (.bin .add (.v 28) (.c (.i .u8 1))) (.cont 0 [(.c (.b true)), (.v 30)]))
  (.call 17 [(false, [(.v 28)])] [(true, 4)]
  (.call 14 [(true, [(.v 9), (.v 10), (.v 11), (.v 12)]), (true, [(.v 30), (.v 31), (.v 32), (.v 33)])] [(false, 1)]
  (.ite (.v 34)
  (.call 17 [(false, [(.v 28)])] [(true, 4)]
  (.call 14 [(true, [(.v 5), (.v 6), (.v 7), (.v 8)]), (true, [(.v 35), (.v 36), (.v 37), (.v 38)])] [(false, 1)]
  (.lt (.un .not (.v 39)) (.lt (.bin .add (.v 28) (.c (.i .u8 1))) (.cont 0 [(.v 40), (.v 41)])))))
  (.lt (.bin .add (.v 28) (.c (.i .u8 1))) (.cont 0 [(.c (.b false)), (.v 35)]))))))
  (.lt (.un .not (.v 27)) (.ite (.v 30)
  (.ret [(false, [(.c (.b true))])])
  (.call 12 [(true, [(.v 5), (.v 6), (.v 7), (.v 8)]), (true, [(.v 9), (.v 10), (.v 11), (.v 12)])] [(false, 1)]
  (.ret [(false, [(.v 31)])]))))))))))
  (.loop [(.c (.b false)), (.c (.i .u8 0))]
  (.lt (.bin .lss (.v 26) (.c (.i .u8 24))) (.ite (.v 27)
  (.ite (.v 25)
  (.lt (.bin .add (.v 26) (.c (.i .u8 1))) (.cont 0 [(.c (.b true)), (.v 28)]))
  (.call 17 [(false, [(.v 26)])] [(true, 4)]
  (.call 14 [(true, [(.v 9), (.v 10), (.v 11), (.v 12)]), (true, [(.v 28), (.v 29), (.v 30), (.v 31)])] [(false, 1)]
  (.ite (.v 32)
  (.call 17 [(false, [(.v 26)])] [(true, 4)]
  (.call 14 [(true, [(.v 5), (.v 6), (.v 7), (.v 8)]), (true, [(.v 33), (.v 34), (.v 35), (.v 36)])] [(false, 1)]
  (.lt (.un .not (.v 37)) (.lt (.bin .add (.v 26) (.c (.i .u8 1))) (.cont 0 [(.v 38), (.v 39)])))))
  (.lt (.bin .add (.v 26) (.c (.i .u8 1))) (.cont 0 [(.c (.b false)), (.v 33)]))))))
  (.lt (.un .not (.v 25)) (.ite (.v 28)
  (.ret [(false, [(.c (.b true))])])
  (.call 12 [(true, [(.v 5), (.v 6), (.v 7), (.v 8)]), (true, [(.v 9), (.v 10), (.v 11), (.v 12)])] [(false, 1)]
  (.ret [(false, [(.v 29)])]))))))))))))
  (.call 12 [(true, [(.v 5), (.v 6), (.v 7), (.v 8)]), (true, [(.v 9), (.v 10), (.v 11), (.v 12)])] [(false, 1)]
  (.lt (.un .not (.v 22)) (.ite (.v 23)
  (.call 12 [(true, [(.v 9), (.v 10), (.v 11), (.v 12)]), (true, [(.v 5), (.v 6), (.v 7), (.v 8)])] [(false, 1)]
  (.lt (.un .not (.v 24)) (.ite (.v 25)
  (.lt (.un .not (.ite (.eqt true (.v 5) (.v 9)) (.ite (.eqt true (.v 6) (.v 10)) (.ite (.eqt true (.v 7) (.v 11)) (.ite (.eqt true (.v 8) (.v 12)) (.c (.b true)) (.c (.b false))) (.c (.b false))) (.c (.b false))) (.c (.b false)))) (.ite (.v 26)
  (.ret [(false, [(.c (.b false))])])
  (.loop [(.c (.b false)), (.c (.i .u8 0))]
  (.lt (.bin .lss (.v 28) (.c (.i .u8 24))) (.ite (.v 29)
  (.ite (.v 27)
  (.lt (.bin .add (.v 28) (.c (.i .u8 1))) (.cont 0 [(.c (.b true)), (.v 30)]))
  (.call 17 [(false, [(.v 28)])] [(true, 4)]
  (.call 14 [(true, [(.v 9), (.v 10), (.v 11), (.v 12)]), (true, [(.v 30), (.v 31), (.v 32), (.v 33)])] [(false, 1)]
  (.ite (.v 34)
  (.call 17 [(false, [(.v 28)])] [(true, 4)]
  (.call 14 [(true, [(.v 5), (.v 6), (.v 7), (.v 8)]), (true, [(.v 35), (.v 36), (.v 37), (.v 38)])] [(false, 1)]
  (.lt (.un .not (.v 39)) (.lt (.bin .add (.v 28) (.c (.i .u8 1))) (.cont 0 [(.v 40), (.v 41)])))))
  (.lt (.bin .add (.v 28) (.c (.i .u8 1))) (.cont 0 [(.c (.b false)), (.v 35)]))))))
  (.lt (.un .not (.v 27)) (.ite (.v 30)
  (.ret [(false, [(.c (.b true))])])
  (.call 12 [(true, [(.v 5), (.v 6), (.v 7), (.v 8)]), (true, [(.v 9), (.v 10), (.v 11), (.v 12)])] [(false, 1)]
  (.ret [(false, [(.v 31)])])))))))))
  (.loop [(.c (.b false)), (.c (.i .u8 0))]
  (.lt (.bin .lss (.v 27) (.c (.i .u8 24))) (.ite (.v 28)
  (.ite (.v 26)
  (.lt (.bin .add (.v 27) (.c (.i .u8 1))) (.cont 0 [(.c (.b true)), (.v 29)]))
  (.call 17 [(false, [(.v 27)])] [(true, 4)]
  (.call 14 [(true, [(.v 9), (.v 10), (.v 11), (.v 12)]), (true, [(.v 29), (.v 30), (.v 31), (.v 32)])] [(false, 1)]
  (.ite (.v 33)
  (.call 17 [(false, [(.v 27)])] [(true, 4)]
  (.call 14 [(true, [(.v 5), (.v 6), (.v 7), (.v 8)]), (true, [(.v 34), (.v 35), (.v 36), (.v 37)])] [(false, 1)]
  (.lt (.un .not (.v 38)) (.lt (.bin .add (.v 27) (.c (.i .u8 1))) (.cont 0 [(.v 39), (.v 40)])))))
  (.lt (.bin .add (.v 27) (.c (.i .u8 1))) (.cont 0 [(.c (.b false)), (.v 34)]))))))
  (.lt (.un .not (.v 26)) (.ite (.v 29)
  (.ret [(false, [(.c (.b true))])])
  (.call 12 [(true, [(.v 5), (.v 6), (.v 7), (.v 8)]), (true, [(.v 9), (.v 10), (.v 11), (.v 12)])] [(false, 1)]
  (.ret [(false, [(.v 30)])]))))))))))
  (.loop [(.c (.b false)), (.c (.i .u8 0))]
  (.lt (.bin .lss (.v 25) (.c (.i .u8 24))) (.ite (.v 26)
  (.ite (.v 24)
  (.lt (.bin .add (.v 25) (.c (.i .u8 1))) (.cont 0 [(.c (.b true)), (.v 27)]))
  (.call 17 [(false, [(.v 25)])] [(true, 4)]
  (.call 14 [(true, [(.v 9), (.v 10), (.v 11), (.v 12)]), (true, [(.v 27), (.v 28), (.v 29), (.v 30)])] [(false, 1)]
  (.ite (.v 31)
  (.call 17 [(false, [(.v 25)])] [(true, 4)]
  (.call 14 [(true, [(.v 5), (.v 6), (.v 7), (.v 8)]), (true, [(.v 32), (.v 33), (.v 34), (.v 35)])] [(false, 1)]
  (.lt (.un .not (.v 36)) (.lt (.bin .add (.v 25) (.c (.i .u8 1))) (.cont 0 [(.v 37), (.v 38)])))))
  (.lt (.bin .add (.v 25) (.c (.i .u8 1))) (.cont 0 [(.c (.b false)), (.v 32)]))))))
  (.lt (.un .not (.v 24)) (.ite (.v 27)
  (.ret [(false, [(.c (.b true))])])
  (.call 12 [(true, [(.v 5), (.v 6), (.v 7), (.v 8)]), (true, [(.v 9), (.v 10), (.v 11), (.v 12)])] [(false, 1)]
  (.ret [(false, [(.v 28)])])))))))))))))
  (.call 12 [(true, [(.v 5), (.v 6), (.v 7), (.v 8)]), (true, [(.v 9), (.v 10), (.v 11), (.v 12)])] [(false, 1)]
  (.lt (.un .not (.v 20)) (.ite (.v 21)
  (.call 12 [(true, [(.v 9), (.v 10), (.v 11), (.v 12)]), (true, [(.v 5), (.v 6), (.v 7), (.v 8)])] [(false, 1)]
  (.lt (.un .not (.v 22)) (.ite (.v 23)
  (.lt (.un .not (.ite (.eqt true (.v 5) (.v 9)) (.ite (.eqt true (.v 6) (.v 10)) (.ite (.eqt true (.v 7) (.v 11)) (.ite (.eqt true (.v 8) (.v 12)) (.c (.b true)) (.c (.b false))) (.c (.b false))) (.c (.b false))) (.c (.b false)))) (.ite (.v 24)
  (.ret [(false, [(.c (.b false))])])
  (.loop [(.c (.b false)), (.c (.i .u8 0))]
  (.lt (.bin .lss (.v 26) (.c (.i .u8 24))) (.ite (.v 27)
  (.ite (.v 25)
  (.lt (.bin .add (.v 26) (.c (.i .u8 1))) (.cont 0 [(.c (.b true)), (.v 28)]))
  (.call 17 [(false, [(.v 26)])] [(true, 4)]
  (.call 14 [(true, [(.v 9), (.v 10), (.v 11), (.v 12)]), (true, [(.v 28), (.v 29), (.v 30), (.v 31)])] [(false, 1)]
  (.ite (.v 32)
  (.call 17 [(false, [(.v 26)])] [(true, 4)]
  (.call 14 [(true, [(.v 5), (.v 6), (.v 7), (.v 8)]), (true, [(.v 33), (.v 34), (.v 35), (.v 36)])] [(false, 1)]
  (.lt (.un .not (.v 37)) (.lt (.bin .add (.v 26) (.c (.i .u8 1))) (.cont 0 [(.v 38), (.v 39)])))))
  (.lt (.bin .add (.v 26) (.c (.i .u8 1))) (.cont 0 [(.c (.b false)), (.v 33)]))))))
  (.lt (.un .not (.v 25)) (.ite (.v 28)
  (.ret [(false, [(.c (.b true))])])
  (.call 12 [(true, [(.v 5), (.v 6), (.v 7), (.v 8)]), (true, [(.v 9), (.v 10), (.v 11), (.v 12)])] [(false, 1)]
  (.ret [(false, [(.v 29)])])))))))))
  (.loop [(.c (.b false)), (.c (.i .u8 0))]
  (.lt (.bin .lss (.v 25) (.c (.i .u8 24))) (.ite (.v 26)
  (.ite (.v 24)
  (.lt (.bin .add (.v 25) (.c (.i .u8 1))) (.cont 0 [(.c (.b true)), (.v 27)]))
  (.call 17 [(false, [(.v 25)])] [(true, 4)]
  (.call 14 [(true, [(.v 9), (.v 10), (.v 11), (.v 12)]), (true, [(.v 27), (.v 28), (.v 29), (.v 30)])] [(false, 1)]
  (.ite (.v 31)
  (.call 17 [(false, [(.v 25)])] [(true, 4)]
  (.call 14 [(true, [(.v 5), (.v 6), (.v 7), (.v 8)]), (true, [(.v 32), (.v 33), (.v 34), (.v 35)])] [(false, 1)]
  (.lt (.un .not (.v 36)) (.lt (.bin .add (.v 25) (.c (.i .u8 1))) (.cont 0 [(.v 37), (.v 38)])))))
  (.lt (.bin .add (.v 25) (.c (.i .u8 1))) (.cont 0 [(.c (.b false)), (.v 32)]))))))
  (.lt (.un .not (.v 24)) (.ite (.v 27)
  (.ret [(false, [(.c (.b true))])])
  (.call 12 [(true, [(.v 5), (.v 6), (.v 7), (.v 8)]), (true, [(.v 9), (.v 10), (.v 11), (.v 12)])] [(false, 1)]
  (.ret [(false, [(.v 28)])]))))))))))
  (.loop [(.c (.b false)), (.c (.i .u8 0))]
  (.lt (.bin .lss (.v 23) (.c (.i .u8 24))) (.ite (.v 24)
  (.ite (.v 22)
  (.lt (.bin .add (.v 23) (.c (.i .u8 1))) (.cont 0 [(.c (.b true)), (.v 25)]))
  (.call 17 [(false, [(.v 23)])] [(true, 4)]
  (.call 14 [(true, [(.v 9), (.v 10), (.v 11), (.v 12)]), (true, [(.v 25), (.v 26), (.v 27), (.v 28)])] [(false, 1)]
  (.ite (.v 29)
  (.call 17 [(false, [(.v 23)])] [(true, 4)]
  (.call 14 [(true, [(.v 5), (.v 6), (.v 7), (.v 8)]), (true, [(.v 30), (.v 31), (.v 32), (.v 33)])] [(false, 1)]
  (.lt (.un .not (.v 34)) (.lt (.bin .add (.v 23) (.c (.i .u8 1))) (.cont 0 [(.v 35), (.v 36)])))))
  (.lt (.bin .add (.v 23) (.c (.i .u8 1))) (.cont 0 [(.c (.b false)), (.v 30)]))))))
  (.lt (.un .not (.v 22)) (.ite (.v 25)
  (.ret [(false, [(.c (.b true))])])
  (.call 12 [(true, [(.v 5), (.v 6), (.v 7), (.v 8)]), (true, [(.v 9), (.v 10), (.v 11), (.v 12)])] [(false, 1)]
  (.ret [(false, [(.v 26)])])))))))))))))))))))))
theorem atlaslaw08_PermLess_c : compile envIrPerm 3000 5 = .ok atlaslaw08_PermLess_ir := by kernel_rfl
theorem atlaslaw08_PermLess_p : paramShape Tryd.prog 5 = some [(false, 1), (false, 1), (false, 1)] := by kernel_rfl
theorem atlaslaw08_PermLess_k : Known gPerm 5 [(false, 1), (false, 1), (false, 1)] atlaslaw08_PermLess_ir := ⟨envIrPerm, 3000, rfl, rfl, atlaslaw08_PermLess_c, atlaslaw08_PermLess_p⟩
/-- atlas/atlaslaw08.PermUser -/
def atlaslaw08_PermUser_ir : IR :=
  (.call 7 [] [(false, 1)]
  (.lt (.un .not (.v 2)) (.ite (.v 3)
  (.ret [(false, [(.c (.b false))])])
  (.call 16 [(false, [(.v 0)])] [(true, 4)]
  (.call 17 [(false, [(.v 1)])] [(true, 4)]
  (.lt (.un .not (.v 10)) (.lt (.un .not (.v 11)) (.lt (.bin .eql (.v 9) (.c (.i .i64 0))) (.ite (.v 14)
  (.call 14 [(true, [(.v 4), (.v 5), (.v 6), (.v 7)]), (true, [(.v 8), (.v 9), (.v 10), (.v 11)])] [(false, 1)]
  (.ite (.v 15)
  (.lt (.un .not (.v 7)) (.ite (.v 16)
  (.ret [(false, [(.c (.b false))])])
  (.lt (.bin .eql (.v 9) (.c (.i .i64 0))) (.ite (.v 17)
  (.call 14 [(true, [(.v 4), (.v 5), (.v 6), (.v 7)]), (true, [(.v 8), (.v 9), (.v 10), (.v 11)])] [(false, 1)]
  (.call 14 [(true, [(.v 4), (.v 5), (.v 6), (.v 7)]), (true, [(.v 8), (.v 9), (.v 12), (.v 11)])] [(false, 1)]
  (.lt (.un .not (.eqt true (.v 18) (.v 19))) (.ite (.v 20)
  (.ret [(false, [(.c (.b false))])])
  (.lt (.bin .eql (.v 8) (.c (.i .i64 1))) (.ite (.v 21)
  (.lt (.bin .neq (.v 8) (.c (.i .i64 2))) (.ite (.v 22)
  (.ret [(false, [(.c (.b true))])])
  (.call 14 [(true, [(.v 4), (.v 5), (.v 6), (.v 7)]), (true, [(.v 8), (.v 9), (.v 10), (.v 11)])] [(false, 1)]
  (.lt (.un .not (.v 23)) (.ite (.v 24)
  (.ret [(false, [(.c (.b true))])])
  (.ret [(false, [(.v 5)])]))))))
  (.call 14 [(true, [(.v 4), (.v 5), (.v 6), (.v 7)]), (true, [(.v 8), (.v 9), (.v 10), (.v 11)])] [(false, 1)]
  (.call 14 [(true, [(.v 4), (.v 5), (.v 6), (.v 7)]), (true, [(.v 8), (.v 9), (.v 10), (.v 13)])] [(false, 1)]
  (.lt (.eqt true (.v 22) (.v 23)) (.ite (.v 24)
  (.lt (.bin .neq (.v 8) (.c (.i .i64 2))) (.ite (.v 25)
  (.ret [(false, [(.c (.b true))])])
  (.call 14 [(true, [(.v 4), (.v 5), (.v 6), (.v 7)]), (true, [(.v 8), (.v 9), (.v 10), (.v 11)])] [(false, 1)]
  (.lt (.un .not (.v 26)) (.ite (.v 27)
  (.ret [(false, [(.c (.b true))])])
  (.ret [(false, [(.v 5)])]))))))
  (.ret [(false, [(.c (.b false))])])))))))))))
  (.lt (.un .not (.v 7)) (.ite (.v 18)
  (.call 14 [(true, [(.v 4), (.v 5), (.v 6), (.v 7)]), (true, [(.v 8), (.v 9), (.v 10), (.v 11)])] [(false, 1)]
  (.call 14 [(true, [(.v 4), (.v 5), (.v 6), (.v 7)]), (true, [(.v 8), (.v 9), (.v 12), (.v 11)])] [(false, 1)]
  (.lt (.un .not (.eqt true (.v 19) (.v 20))) (.ite (.v 21)
  (.ret [(false, [(.c (.b false))])])
  (.lt (.bin .eql (.v 8) (.c (.i .i64 1))) (.ite (.v 22)
  (.lt (.bin .neq (.v 8) (.c (.i .i64 2))) (.ite (.v 23)
  (.ret [(false, [(.c (.b true))])])
  (.call 14 [(true, [(.v 4), (.v 5), (.v 6), (.v 7)]), (true, [(.v 8), (.v 9), (.v 10), (.v 11)])] [(false, 1)]
  (.lt (.un .not (.v 24)) (.ite (.v 25)
  (.ret [(false, [(.c (.b true))])])
  (.ret [(false, [(.v 5)])]))))))
  (.call 14 [(true, [(.v 4), (.v 5), (.v 6), (.v 7)]), (true, [(.v 8), (.v 9), (.v 10), (.v 11)])] [(false, 1)]
  (.call 14 [(true, [(.v 4), (.v 5), (.v 6), (.v 7)]), (true, [(.v 8), (.v 9), (.v 10), (.v 13)])] [(false, 1)]
  (.lt (.eqt true (.v 23) (.v 24)) (.ite (.v 25)
  (.lt (.bin .neq (.v 8) (.c (.i .i64 2))) (.ite (.v 26)
  (.ret [(false, [(.c (.b true))])])
  (.call 14 [(true, [(.v 4), (.v 5), (.v 6), (.v 7)]), (true, [(.v 8), (.v 9), (.v 10), (.v 11)])] [(false, 1)]
  (.lt (.un .not (.v 27)) (.ite (.v 28)
  (.ret [(false, [(.c (.b true))])])
  (.ret [(false, [(.v 5)])]))))))
  (.ret [(false, [(.c (.b false))])])))))))))))
  (.lt (.bin .eql (.v 8) (.c (.i .i64 1))) (.ite (.v 19)
  (.lt (.bin .neq (.v 8) (.c (.i .i64 2))) (.ite (.v 20)
  (.ret [(false, [(.c (.b true))])])
  (.call 14 [(true, [(.v 4), (.v 5), (.v 6), (.v 7)]), (true, [(.v 8), (.v 9), (.v 10), (.v 11)])] [(false, 1)]
  (.lt (.un .not (.v 21)) (.ite (.v 22)
  (.ret [(false, [(.c (.b true))])])
  (.ret [(false, [(.v 5)])]))))))
  (.call 14 [(true, [(.v 4), (.v 5), (.v 6), (.v 7)]), (true, [(.v 8), (.v 9), (.v 10), (.v 11)])] [(false, 1)]
  (.call 14 [(true, [(.v 4), (.v 5), (.v 6), (.v 7)]), (true, [(.v 8), (.v 9), (.v 10), (.v 13)])] [(false, 1)]
  (.lt (.eqt true (.v 20) (.v 21)) (.ite (.v 22)
  (.lt (.bin .neq (.v 8) (.c (.i .i64 2))) (.ite (.v 23)
  (.ret [(false, [(.c (.b true))])])
  (.call 14 [(true, [(.v 4), (.v 5), (.v 6), (.v 7)]), (true, [(.v 8), (.v 9), (.v 10), (.v 11)])] [(false, 1)]
  (.lt (.un .not (.v 24)) (.ite (.v 25)
  (.ret [(false, [(.c (.b true))])])
  (.ret [(false, [(.v 5)])]))))))
  (.ret [(false, [(.c (.b false))])])))))))))))))
  (.lt (.bin .eql (.v 9) (.c (.i .i64 0))) (.ite (.v 16)
  (.call 14 [(true, [(.v 4), (.v 5), (.v 6), (.v 7)]), (true, [(.v 8), (.v 9), (.v 10), (.v 11)])] [(false, 1)]
  (.call 14 [(true, [(.v 4), (.v 5), (.v 6), (.v 7)]), (true, [(.v 8), (.v 9), (.v 12), (.v 11)])] [(false, 1)]
  (.lt (.un .not (.eqt true (.v 17) (.v 18))) (.ite (.v 19)
  (.ret [(false, [(.c (.b false))])])
  (.lt (.bin .eql (.v 8) (.c (.i .i64 1))) (.ite (.v 20)
  (.lt (.bin .neq (.v 8) (.c (.i .i64 2))) (.ite (.v 21)
  (.ret [(false, [(.c (.b true))])])
  (.call 14 [(true, [(.v 4), (.v 5), (.v 6), (.v 7)]), (true, [(.v 8), (.v 9), (.v 10), (.v 11)])] [(false, 1)]
  (.lt (.un .not (.v 22)) (.ite (.v 23)
  (.ret [(false, [(.c (.b true))])])
  (.ret [(false, [(.v 5)])]))))))
  (.call 14 [(true, [(.v 4), (.v 5), (.v 6), (.v 7)]), (true, [(.v 8), (.v 9), (.v 10), (.v 11)])] [(false, 1)]
  (.call 14 [(true, [(.v 4), (.v 5), (.v 6), (.v 7)]), (true, [(.v 8), (.v 9), (.v 10), (.v 13)])] [(false, 1)]
  (.lt (.eqt true (.v 21) (.v 22)) (.ite (.v 23)
  (.lt (.bin .neq (.v 8) (.c (.i .i64 2))) (.ite (.v 24)
  (.ret [(false, [(.c (.b true))])])
  (.call 14 [(true, [(.v 4), (.v 5), (.v 6), (.v 7)]), (true, [(.v 8), (.v 9), (.v 10), (.v 11)])] [(false, 1)]
  (.lt (.un .not (.v 25)) (.ite (.v 26)
  (.ret [(false, [(.c (.b true))])])
  (.ret [(false, [(.v 5)])]))))))
  (.ret [(false, [(.c (.b false))])])))))))))))
  (.lt (.un .not (.v 7)) (.ite (.v 17)
  (.call 14 [(true, [(.v 4), (.v 5), (.v 6), (.v 7)]), (true, [(.v 8), (.v 9), (.v 10), (.v 11)])] [(false, 1)]
  (.call 14 [(true, [(.v 4), (.v 5), (.v 6), (.v 7)]), (true, [(.v 8), (.v 9), (.v 12), (.v 11)])] [(false, 1)]
  (.lt (.un .not (.eqt true (.v 18) (.v 19))) (.ite (.v 20)
  (.ret [(false, [(.c (.b false))])])
  (.lt (.bin .eql (.v 8) (.c (.i .i64 1))) (.ite (.v 21)
  (.lt (.bin .neq (.v 8) (.c (.i .i64 2))) (.ite (.v 22)
  (.ret [(false, [(.c (.b true))])])
  (.call 14 [(true, [(.v 4), (.v 5), (.v 6), (.v 7)]), (true, [(.v 8), (.v 9), (.v 10), (.v 11)])] [(false, 1)]
  (.lt (.un .not (.v 23)) (.ite (.v 24)
  (.ret [(false, [(.c (.b true))])])
  (.ret [(false, [(.v 5)])]))))))
  (.call 14 [(true, [(.v 4), (.v 5), (.v 6), (.v 7)]), (true, [(.v 8), (.v 9), (.v 10), (.v 11)])] [(false, 1)]
  (.call 14 [(true, [(.v 4), (.v 5), (.v 6), (.v 7)]), (true, [(.v 8), (.v 9), (.v 10), (.v 13)])] [(false, 1)]
  (.lt (.eqt true (.v 22) (.v 23)) (.ite (.v 24)
  (.lt (.bin .neq (.v 8) (.c (.i .i64 2))) (.ite (.v 25)
  (.ret [(false, [(.c (.b true))])])
  (.call 14 [(true, [(.v 4), (.v 5), (.v 6), (.v 7)]), (true, [(.v 8), (.v 9), (.v 10), (.v 11)])] [(false, 1)]
  (.lt (.un .not (.v 26)) (.ite (.v 27)
  (.ret [(false, [(.c (.b true))])])
  (.ret [(false, [(.v 5)])]))))))
  (.ret [(false, [(.c (.b false))])])))))))))))
  (.lt (.bin .eql (.v 8) (.c (.i .i64 1))) (.ite (.v 18)
  (.lt (.bin .neq (.v 8) (.c (.i .i64 2))) (.ite (.v 19)
  (.ret [(false, [(.c (.b true))])])
  (.call 14 [(true, [(.v 4), (.v 5), (.v 6), (.v 7)]), (true, [(.v 8), (.v 9), (.v 10), (.v 11)])] [(false, 1)]
  (.lt (.un .not (.v 20)) (.ite (.v 21)
  (.ret [(false, [(.c (.b true))])])
  (.ret [(false, [(.v 5)])]))))))
  (.call 14 [(true, [(.v 4), (.v 5), (.v 6), (.v 7)]), (true, [(.v 8), (.v 9), (.v 10), (.v 11)])] [(false, 1)]
  (.call 14 [(true, [(.v 4), (.v 5), (.v 6), (.v 7)]), (true, [(.v 8), (.v 9), (.v 10), (.v 13)])] [(false, 1)]
  (.lt (.eqt true (.v 19) (.v 20)) (.ite (.v 21)
  (.lt (.bin .neq (.v 8) (.c (.i .i64 2))) (.ite (.v 22)
  (.ret [(false, [(.c (.b true))])])
  (.call 14 [(true, [(.v 4), (.v 5), (.v 6), (.v 7)]), (true, [(.v 8), (.v 9), (.v 10), (.v 11)])] [(false, 1)]
  (.lt (.un .not (.v 23)) (.ite (.v 24)
  (.ret [(false, [(.c (.b true))])])
  (.ret [(false, [(.v 5)])]))))))
  (.ret [(false, [(.c (.b false))])])))))))))))))
  (.lt (.bin .eql (.v 9) (.c (.i .i64 0))) (.ite (.v 15)
  (.call 14 [(true, [(.v 4), (.v 5), (.v 6), (.v 7)]), (true, [(.v 8), (.v 9), (.v 10), (.v 11)])] [(false, 1)]
  (.call 14 [(true, [(.v 4), (.v 5), (.v 6), (.v 7)]), (true, [(.v 8), (.v 9), (.v 12), (.v 11)])] [(false, 1)]
  (.lt (.un .not (.eqt true (.v 16) (.v 17))) (.ite (.v 18)
  (.ret [(false, [(.c (.b false))])])
  (.lt (.bin .eql (.v 8) (.c (.i .i64 1))) (.ite (.v 19)
  (.lt (.bin .neq (.v 8) (.c (.i .i64 2))) (.ite (.v 20)
  (.ret [(false, [(.c (.b true))])])
  (.call 14 [(true, [(.v 4), (.v 5), (.v 6), (.v 7)]), (true, [(.v 8), (.v 9), (.v 10), (.v 11)])] [(false, 1)]
  (.lt (.un .not (.v 21)) (.ite (.v 22)
  (.ret [(false, [(.c (.b true))])])
  (.ret [(false, [(.v 5)])]))))))
  (.call 14 [(true, [(.v 4), (.v 5), (.v 6), (.v 7)]), (true, [(.v 8), (.v 9), (.v 10), (.v 11)])] [(false, 1)]
  (.call 14 [(true, [(.v 4), (.v 5), (.v 6), (.v 7)]), (true, [(.v 8), (.v 9), (.v 10), (.v 13)])] [(false, 1)]
  (.lt (.eqt true (.v 20) (.v 21)) (.ite (.v 22)
  (.lt (.bin .neq (.v 8) (.c (.i .i64 2))) (.ite (.v 23)
  (.ret [(false, [(.c (.b true))])])
  (.call 14 [(true, [(.v 4), (.v 5), (.v 6), (.v 7)]), (true, [(.v 8), (.v 9), (.v 10), (.v 11)])] [(false, 1)]
  (.lt (.un .not (.v 24)) (.ite (.v 25)
  (.ret [(false, [(.c (.b true))])])
  (.ret [(false, [(.v 5)])]))))))
  (.ret [(false, [(.c (.b false))])])))))))))))
  (.lt (.un .not (.v 7)) (.ite (.v 16)
  (.call 14 [(true, [(.v 4), (.v 5), (.v 6), (.v 7)]), (true, [(.v 8), (.v 9), (.v 10), (.v 11)])] [(false, 1)]
  (.call 14 [(true, [(.v 4), (.v 5), (.v 6), (.v 7)]), (true, [(.v 8), (.v 9), (.v 12), (.v 11)])] [(false, 1)]
  (.lt (.un .not (.eqt true (.v 17) (.v 18))) (.ite (.v 19)
  (.ret [(false, [(.c (.b false))])])
  (.lt (.bin .eql (.v 8) (.c (.i .i64 1))) (.ite (.v 20)
  (.lt (.bin .neq (.v 8) (.c (.i .i64 2))) (.ite (.v 21)
  (.ret [(false, [(.c (.b true))])])
  (.call 14 [(true, [(.v 4), (.v 5), (.v 6), (.v 7)]), (true, [(.v 8), (.v 9), (.v 10), (.v 11)])] [(false, 1)]
  (.lt (.un .not (.v 22)) (.ite (.v 23)
  (.ret [(false, [(.c (.b true))])])
  (.ret [(false, [(.v 5)])]))))))
  (.call 14 [(true, [(.v 4), (.v 5), (.v 6), (.v 7)]), (true, [(.v 8), (.v 9), (.v 10), (.v 11)])] [(false, 1)]
  (.call 14 [(true, [(.v 4), (.v 5), (.v 6), (.v 7)]), (true, [(.v 8), (.v 9), (.v 10), (.v 13)])] [(false, 1)]
  (.lt (.eqt true (.v 21) (.v 22)) (.ite (.v 23)
  (.lt (.bin .neq (.v 8) (.c (.i .i64 2))) (.ite (.v 24)
  (.ret [(false, [(.c (.b true))])])
  (.call 14 [(true, [(.v 4), (.v 5), (.v 6), (.v 7)]), (true, [(.v 8), (.v 9), (.v 10), (.v 11)])] [(false, 1)]
  (.lt (.un .not (.v 25)) (.ite (.v 26)
  (.ret [(false, [(.c (.b true))])])
  (.ret [(false, [(.v 5)])]))))))
  (.ret [(false, [(.c (.b false))])])))))))))))
  (.lt (.bin .eql (.v 8) (.c (.i .i64 1))) (.ite (.v 17)
  (.lt (.bin .neq (.v 8) (.c (.i .i64 2))) (.ite (.v 18)
  (.ret [(false, [(.c (.b true))])])
  (.call 14 [(true, [(.v 4), (.v 5), (.v 6), (.v 7)]), (true, [(.v 8), (.v 9), (.v 10), (.v 11)])] [(false, 1)]
  (.lt (.un .not (.v 19)) (.ite (.v 20)
  (.ret [(false, [(.c (.b true))])])
  (.ret [(false, [(.v 5)])]))))))
  (.call 14 [(true, [(.v 4), (.v 5), (.v 6), (.v 7)]), (true, [(.v 8), (.v 9), (.v 10), (.v 11)])] [(false, 1)]
  (.call 14 [(true, [(.v 4), (.v 5), (.v 6), (.v 7)]), (true, [(.v 8), (.v 9), (.v 10), (.v 13)])] [(false, 1)]
  (.lt (.eqt true (.v 18) (.v 19)) (.ite (.v 20)
  (.lt (.bin .neq (.v 8) (.c (.i .i64 2))) (.ite (.v 21)
  (.ret [(false, [(.c (.b true))])])
  (.call 14 [(true, [(.v 4), (.v 5), (.v 6), (.v 7)]), (true, [(.v 8), (.v 9), (.v 10), (.v 11)])] [(false, 1)]
  (.lt (.un .not (.v 22)) (.ite (.v 23)
  (.ret [(false, [(.c (.b true))])])
  (.ret [(false, [(.v 5)])]))))))
  (.ret [(false, [(.c (.b false))])]))))))))))))))))))))
theorem atlaslaw08_PermUser_c : compile envIrPerm 3000 6 = .ok atlaslaw08_PermUser_ir := by kernel_rfl
theorem atlaslaw08_PermUser_p : paramShape Tryd.prog 6 = some [(false, 1), (false, 1)] := by kernel_rfl
theorem atlaslaw08_PermUser_k : Known gPerm 6 [(false, 1), (false, 1)] atlaslaw08_PermUser_ir := ⟨envIrPerm, 3000, rfl, rfl, atlaslaw08_PermUser_c, atlaslaw08_PermUser_p⟩
/-- atlas/atlaslaw08.awake -/
def atlaslaw08_awake_ir : IR :=
  (.call 14 [(true, [(.c (.b true)), (.c (.b true)), (.c (.b false)), (.c (.b true))]), (true, [(.c (.i .i64 2)), (.c (.i .i64 0)), (.c (.b false)), (.c (.b false))])] [(false, 1)]
  (.ite (.v 0)
  (.call 14 [(true, [(.c (.b true)), (.c (.b true)), (.c (.b false)), (.c (.b true))]), (true, [(.c (.i .i64 1)), (.c (.i .i64 1)), (.c (.b false)), (.c (.b false))])] [(false, 1)]
  (.lt (.un .not (.v 1)) (.ite (.v 2)
  (.call 14 [(true, [(.c (.b true)), (.c (.b true)), (.c (.b false)), (.c (.b true))]), (true, [(.c (.i .i64 1)), (.c (.i .i64 1)), (.c (.b true)), (.c (.b false))])] [(false, 1)]
  (.ite (.v 3)
  (.call 14 [(true, [(.c (.b true)), (.c (.b true)), (.c (.b false)), (.c (.b true))]), (true, [(.c (.i .i64 0)), (.c (.i .i64 0)), (.c (.b false)), (.c (.b false))])] [(false, 1)]
  (.lt (.un .not (.v 4)) (.ite (.v 5)
  (.call 10 [(true, [(.c (.b true)), (.c (.b true)), (.c (.b false)), (.c (.b true))])] [(false, 1)]
  (.ite (.v 6)
  (.call 10 [(true, [(.c (.b false)), (.c (.b true)), (.c (.b true)), (.c (.b false))])] [(false, 1)]
  (.lt (.un .not (.v 7)) (.ite (.v 8)
  (.call 12 [(true, [(.c (.b true)), (.c (.b false)), (.c (.b false)), (.c (.b false))]), (true, [(.c (.b true)), (.c (.b true)), (.c (.b false)), (.c (.b true))])] [(false, 1)]
  (.ite (.v 9)
  (.call 12 [(true, [(.c (.b true)), (.c (.b true)), (.c (.b false)), (.c (.b true))]), (true, [(.c (.b true)), (.c (.b true)), (.c (.b false)), (.c (.b true))])] [(false, 1)]
  (.lt (.un .not (.v 10)) (.ite (.v 11)
  (.call 8 [(true, [(.c (.i .i64 2)), (.c (.i .i64 1)), (.c (.b false)), (.c (.b false))])] [(false, 1)]
  (.ite (.v 12)
  (.call 8 [(true, [(.c (.i .i64 3)), (.c (.i .i64 0)), (.c (.b false)), (.c (.b false))])] [(false, 1)]
  (.lt (.un .not (.v 13)) (.ret [(false, [(.v 14)])])))
  (.ret [(false, [(.c (.b false))])])))
  (.ret [(false, [(.c (.b false))])]))))
  (.ret [(false, [(.c (.b false))])])))
  (.ret [(false, [(.c (.b false))])]))))
  (.ret [(false, [(.c (.b false))])])))
  (.ret [(false, [(.c (.b false))])]))))
  (.ret [(false, [(.c (.b false))])])))
  (.ret [(false, [(.c (.b false))])]))))
  (.ret [(false, [(.c (.b false))])])))
theorem atlaslaw08_awake_c : compile envIrPerm 3000 7 = .ok atlaslaw08_awake_ir := by kernel_rfl
theorem atlaslaw08_awake_p : paramShape Tryd.prog 7 = some [] := by kernel_rfl
theorem atlaslaw08_awake_k : Known gPerm 7 [] atlaslaw08_awake_ir := ⟨envIrPerm, 3000, rfl, rfl, atlaslaw08_awake_c, atlaslaw08_awake_p⟩
/-- atlas/perm.Is -/
def perm_Is_ir : IR :=
  (.lt (.bin .geq (.v 0) (.c (.i .i64 0))) (.ite (.v 4)
  (.lt (.bin .lss (.v 0) (.c (.i .i64 3))) (.ite (.v 5)
  (.lt (.bin .eql (.v 1) (.c (.i .i64 0))) (.ite (.v 6)
  (.ret [(false, [(.c (.b true))])])
  (.lt (.bin .eql (.v 1) (.c (.i .i64 1))) (.ret [(false, [(.v 7)])]))))
  (.ret [(false, [(.c (.b false))])])))
  (.ret [(false, [(.c (.b false))])])))
theorem perm_Is_c : compile envIrPerm 3000 8 = .ok perm_Is_ir := by kernel_rfl
theorem perm_Is_p : paramShape Tryd.prog 8 = some [(true, 4)] := by kernel_rfl
theorem perm_Is_k : Known gPerm 8 [(true, 4)] perm_Is_ir := ⟨envIrPerm, 3000, rfl, rfl, perm_Is_c, perm_Is_p⟩
/-- atlas/atlasref08.Is -/
def atlasref08_Is_ir : IR :=
  (.lt (.bin .eql (.v 0) (.c (.i .i64 0))) (.ite (.v 4)
  (.lt (.bin .eql (.v 1) (.c (.i .i64 0))) (.ite (.v 5)
  (.ret [(false, [(.c (.b true))])])
  (.lt (.bin .eql (.v 1) (.c (.i .i64 1))) (.ret [(false, [(.v 6)])]))))
  (.lt (.bin .eql (.v 0) (.c (.i .i64 1))) (.ite (.v 5)
  (.lt (.bin .eql (.v 1) (.c (.i .i64 0))) (.ite (.v 6)
  (.ret [(false, [(.c (.b true))])])
  (.lt (.bin .eql (.v 1) (.c (.i .i64 1))) (.ret [(false, [(.v 7)])]))))
  (.lt (.bin .eql (.v 0) (.c (.i .i64 2))) (.ite (.v 6)
  (.lt (.bin .eql (.v 1) (.c (.i .i64 0))) (.ite (.v 7)
  (.ret [(false, [(.c (.b true))])])
  (.lt (.bin .eql (.v 1) (.c (.i .i64 1))) (.ret [(false, [(.v 8)])]))))
  (.ret [(false, [(.c (.b false))])])))))))
theorem atlasref08_Is_c : compile envIrPerm 3000 9 = .ok atlasref08_Is_ir := by kernel_rfl
theorem atlasref08_Is_p : paramShape Tryd.prog 9 = some [(true, 4)] := by kernel_rfl
theorem atlasref08_Is_k : Known gPerm 9 [(true, 4)] atlasref08_Is_ir := ⟨envIrPerm, 3000, rfl, rfl, atlasref08_Is_c, atlasref08_Is_p⟩
/-- atlas/perm.May -/
def perm_May_ir : IR :=
  (.ite (.v 0)
  (.ite (.v 0)
  (.ret [(false, [(.c (.b true))])])
  (.lt (.un .not (.v 1)) (.ret [(false, [(.v 4)])])))
  (.ite (.v 2)
  (.ite (.v 0)
  (.ret [(false, [(.c (.b true))])])
  (.lt (.un .not (.v 1)) (.ret [(false, [(.v 4)])])))
  (.ret [(false, [(.c (.b false))])])))
theorem perm_May_c : compile envIrPerm 3000 10 = .ok perm_May_ir := by kernel_rfl
theorem perm_May_p : paramShape Tryd.prog 10 = some [(true, 4)] := by kernel_rfl
theorem perm_May_k : Known gPerm 10 [(true, 4)] perm_May_ir := ⟨envIrPerm, 3000, rfl, rfl, perm_May_c, perm_May_p⟩
/-- atlas/atlasref08.May -/
def atlasref08_May_ir : IR :=
  (.lt (.un .not (.v 0)) (.ite (.v 4)
  (.lt (.un .not (.v 2)) (.ite (.v 5)
  (.ret [(false, [(.c (.b false))])])
  (.lt (.un .not (.v 1)) (.ite (.v 6)
  (.ret [(false, [(.c (.b true))])])
  (.ret [(false, [(.v 0)])])))))
  (.lt (.un .not (.v 1)) (.ite (.v 5)
  (.ret [(false, [(.c (.b true))])])
  (.ret [(false, [(.v 0)])])))))
theorem atlasref08_May_c : compile envIrPerm 3000 11 = .ok atlasref08_May_ir := by kernel_rfl
theorem atlasref08_May_p : paramShape Tryd.prog 11 = some [(true, 4)] := by kernel_rfl
theorem atlasref08_May_k : Known gPerm 11 [(true, 4)] atlasref08_May_ir := ⟨envIrPerm, 3000, rfl, rfl, atlasref08_May_c, atlasref08_May_p⟩
/-- atlas/perm.Less -/
def perm_Less_ir : IR :=
  (.ite (.v 4)
  (.lt (.un .not (.v 0)) (.ite (.v 8)
  (.ret [(false, [(.c (.b true))])])
  (.ite (.v 5)
  (.lt (.un .not (.v 1)) (.ite (.v 9)
  (.ret [(false, [(.c (.b true))])])
  (.ite (.v 6)
  (.lt (.un .not (.v 2)) (.ite (.v 10)
  (.ret [(false, [(.c (.b true))])])
  (.lt (.un .not (.eqt true (.v 7) (.v 3))) (.ret [(false, [(.v 11)])]))))
  (.lt (.un .not (.eqt true (.v 7) (.v 3))) (.ret [(false, [(.v 10)])])))))
  (.ite (.v 6)
  (.lt (.un .not (.v 2)) (.ite (.v 9)
  (.ret [(false, [(.c (.b true))])])
  (.lt (.un .not (.eqt true (.v 7) (.v 3))) (.ret [(false, [(.v 10)])]))))
  (.lt (.un .not (.eqt true (.v 7) (.v 3))) (.ret [(false, [(.v 9)])]))))))
  (.ite (.v 5)
  (.lt (.un .not (.v 1)) (.ite (.v 8)
  (.ret [(false, [(.c (.b true))])])
  (.ite (.v 6)
  (.lt (.un .not (.v 2)) (.ite (.v 9)
  (.ret [(false, [(.c (.b true))])])
  (.lt (.un .not (.eqt true (.v 7) (.v 3))) (.ret [(false, [(.v 10)])]))))
  (.lt (.un .not (.eqt true (.v 7) (.v 3))) (.ret [(false, [(.v 9)])])))))
  (.ite (.v 6)
  (.lt (.un .not (.v 2)) (.ite (.v 8)
  (.ret [(false, [(.c (.b true))])])
  (.lt (.un .not (.eqt true (.v 7) (.v 3))) (.ret [(false, [(.v 9)])]))))
  (.lt (.un .not (.eqt true (.v 7) (.v 3))) (.ret [(false, [(.v 8)])])))))
theorem perm_Less_c : compile envIrPerm 3000 12 = .ok perm_Less_ir := by kernel_rfl
theorem perm_Less_p : paramShape Tryd.prog 12 = some [(true, 4), (true, 4)] := by kernel_rfl
theorem perm_Less_k : Known gPerm 12 [(true, 4), (true, 4)] perm_Less_ir := ⟨envIrPerm, 3000, rfl, rfl, perm_Less_c, perm_Less_p⟩
/-- atlas/atlasref08.Less -/
def atlasref08_Less_ir : IR :=
  (.lt (.un .not (.v 0)) (.ite (.v 8)
  (.ite (.v 4)
  (.ret [(false, [(.c (.b true))])])
  (.lt (.un .not (.v 1)) (.ite (.v 9)
  (.ite (.v 5)
  (.ret [(false, [(.c (.b true))])])
  (.lt (.un .not (.v 2)) (.ite (.v 10)
  (.ite (.v 6)
  (.ret [(false, [(.c (.b true))])])
  (.lt (.un .not (.v 3)) (.ite (.v 11)
  (.ite (.v 7)
  (.ret [(false, [(.c (.b true))])])
  (.ite (.v 3)
  (.lt (.un .not (.v 7)) (.ret [(false, [(.v 12)])]))
  (.ret [(false, [(.c (.b false))])])))
  (.ite (.v 3)
  (.lt (.un .not (.v 7)) (.ret [(false, [(.v 12)])]))
  (.ret [(false, [(.c (.b false))])])))))
  (.lt (.un .not (.v 3)) (.ite (.v 11)
  (.ite (.v 7)
  (.ret [(false, [(.c (.b true))])])
  (.ite (.v 3)
  (.lt (.un .not (.v 7)) (.ret [(false, [(.v 12)])]))
  (.ret [(false, [(.c (.b false))])])))
  (.ite (.v 3)
  (.lt (.un .not (.v 7)) (.ret [(false, [(.v 12)])]))
  (.ret [(false, [(.c (.b false))])])))))))
  (.lt (.un .not (.v 2)) (.ite (.v 10)
  (.ite (.v 6)
  (.ret [(false, [(.c (.b true))])])
  (.lt (.un .not (.v 3)) (.ite (.v 11)
  (.ite (.v 7)
  (.ret [(false, [(.c (.b true))])])
  (.ite (.v 3)
  (.lt (.un .not (.v 7)) (.ret [(false, [(.v 12)])]))
  (.ret [(false, [(.c (.b false))])])))
  (.ite (.v 3)
  (.lt (.un .not (.v 7)) (.ret [(false, [(.v 12)])]))
  (.ret [(false, [(.c (.b false))])])))))
  (.lt (.un .not (.v 3)) (.ite (.v 11)
  (.ite (.v 7)
  (.ret [(false, [(.c (.b true))])])
  (.ite (.v 3)
  (.lt (.un .not (.v 7)) (.ret [(false, [(.v 12)])]))
  (.ret [(false, [(.c (.b false))])])))
  (.ite (.v 3)
  (.lt (.un .not (.v 7)) (.ret [(false, [(.v 12)])]))
  (.ret [(false, [(.c (.b false))])])))))))))
  (.lt (.un .not (.v 1)) (.ite (.v 9)
  (.ite (.v 5)
  (.ret [(false, [(.c (.b true))])])
  (.lt (.un .not (.v 2)) (.ite (.v 10)
  (.ite (.v 6)
  (.ret [(false, [(.c (.b true))])])
  (.lt (.un .not (.v 3)) (.ite (.v 11)
  (.ite (.v 7)
  (.ret [(false, [(.c (.b true))])])
  (.ite (.v 3)
  (.lt (.un .not (.v 7)) (.ret [(false, [(.v 12)])]))
  (.ret [(false, [(.c (.b false))])])))
  (.ite (.v 3)
  (.lt (.un .not (.v 7)) (.ret [(false, [(.v 12)])]))
  (.ret [(false, [(.c (.b false))])])))))
  (.lt (.un .not (.v 3)) (.ite (.v 11)
  (.ite (.v 7)
  (.ret [(false, [(.c (.b true))])])
  (.ite (.v 3)
  (.lt (.un .not (.v 7)) (.ret [(false, [(.v 12)])]))
  (.ret [(false, [(.c (.b false))])])))
  (.ite (.v 3)
  (.lt (.un .not (.v 7)) (.ret [(false, [(.v 12)])]))
  (.ret [(false, [(.c (.b false))])])))))))
  (.lt (.un .not (.v 2)) (.ite (.v 10)
  (.ite (.v 6)
  (.ret [(false, [(.c (.b true))])])
  (.lt (.un .not (.v 3)) (.ite (.v 11)
  (.ite (.v 7)
  (.ret [(false, [(.c (.b true))])])
  (.ite (.v 3)
  (.lt (.un .not (.v 7)) (.ret [(false, [(.v 12)])]))
  (.ret [(false, [(.c (.b false))])])))
  (.ite (.v 3)
  (.lt (.un .not (.v 7)) (.ret [(false, [(.v 12)])]))
  (.ret [(false, [(.c (.b false))])])))))
  (.lt (.un .not (.v 3)) (.ite (.v 11)
  (.ite (.v 7)
  (.ret [(false, [(.c (.b true))])])
  (.ite (.v 3)
  (.lt (.un .not (.v 7)) (.ret [(false, [(.v 12)])]))
  (.ret [(false, [(.c (.b false))])])))
  (.ite (.v 3)
  (.lt (.un .not (.v 7)) (.ret [(false, [(.v 12)])]))
  (.ret [(false, [(.c (.b false))])]))))))))))
theorem atlasref08_Less_c : compile envIrPerm 3000 13 = .ok atlasref08_Less_ir := by kernel_rfl
theorem atlasref08_Less_p : paramShape Tryd.prog 13 = some [(true, 4), (true, 4)] := by kernel_rfl
theorem atlasref08_Less_k : Known gPerm 13 [(true, 4), (true, 4)] atlasref08_Less_ir := ⟨envIrPerm, 3000, rfl, rfl, atlasref08_Less_c, atlasref08_Less_p⟩
/-- atlas/perm.Allows -/
def perm_Allows_ir : IR :=
  (.call 18 [(true, [(.v 0), (.v 1), (.v 2), (.v 3)]), (true, [(.v 4), (.v 5), (.v 6), (.v 7)])] [(false, 1)]
  (.ite (.v 8)
  (.chk (.rng (.v 4) 3) (.ite (.isk (.v 4) 0)
  (.call 35 [(true, [(.v 0), (.v 1), (.v 2), (.v 3)]), (true, [(.v 4), (.v 5), (.v 6), (.v 7)])] [(false, 1)]
  (.ret [(false, [(.v 9)])]))
  (.ite (.isk (.v 4) 1)
  (.call 36 [(true, [(.v 0), (.v 1), (.v 2), (.v 3)]), (true, [(.v 4), (.v 5), (.v 6), (.v 7)])] [(false, 1)]
  (.ret [(false, [(.v 9)])]))
  (.call 37 [(true, [(.v 0), (.v 1), (.v 2), (.v 3)]), (true, [(.v 4), (.v 5), (.v 6), (.v 7)])] [(false, 1)]
  (.ret [(false, [(.v 9)])])))))
  (.ret [(false, [(.c (.b false))])])))
theorem perm_Allows_c : compile envIrPerm 3000 14 = .ok perm_Allows_ir := by kernel_rfl
theorem perm_Allows_p : paramShape Tryd.prog 14 = some [(true, 4), (true, 4)] := by kernel_rfl
theorem perm_Allows_k : Known gPerm 14 [(true, 4), (true, 4)] perm_Allows_ir := ⟨envIrPerm, 3000, rfl, rfl, perm_Allows_c, perm_Allows_p⟩
/-- atlas/atlasref08.Allows -/
def atlasref08_Allows_ir : IR :=
  (.lt (.bin .eql (.v 5) (.c (.i .i64 0))) (.ite (.v 8)
  (.lt (.un .not (.v 3)) (.ite (.v 9)
  (.ret [(false, [(.c (.b false))])])
  (.lt (.bin .eql (.v 5) (.c (.i .i64 1))) (.ite (.v 10)
  (.ite (.v 3)
  (.lt (.bin .eql (.v 4) (.c (.i .i64 0))) (.ite (.v 11)
  (.ret [(false, [(.c (.b false))])])
  (.lt (.un .not (.v 6)) (.ite (.v 12)
  (.ret [(false, [(.c (.b false))])])
  (.lt (.bin .eql (.v 4) (.c (.i .i64 0))) (.ite (.v 13)
  (.ret [(false, [(.v 2)])])
  (.lt (.bin .eql (.v 4) (.c (.i .i64 1))) (.ite (.v 14)
  (.ite (.v 0)
  (.ret [(false, [(.c (.b true))])])
  (.ite (.v 2)
  (.ret [(false, [(.v 7)])])
  (.ret [(false, [(.c (.b false))])])))
  (.ret [(false, [(.v 1)])])))))))))
  (.lt (.bin .eql (.v 4) (.c (.i .i64 0))) (.ite (.v 11)
  (.ret [(false, [(.v 2)])])
  (.lt (.bin .eql (.v 4) (.c (.i .i64 1))) (.ite (.v 12)
  (.ite (.v 0)
  (.ret [(false, [(.c (.b true))])])
  (.ite (.v 2)
  (.ret [(false, [(.v 7)])])
  (.ret [(false, [(.c (.b false))])])))
  (.ret [(false, [(.v 1)])]))))))
  (.lt (.bin .eql (.v 4) (.c (.i .i64 0))) (.ite (.v 11)
  (.ret [(false, [(.v 2)])])
  (.lt (.bin .eql (.v 4) (.c (.i .i64 1))) (.ite (.v 12)
  (.ite (.v 0)
  (.ret [(false, [(.c (.b true))])])
  (.ite (.v 2)
  (.ret [(false, [(.v 7)])])
  (.ret [(false, [(.c (.b false))])])))
  (.ret [(false, [(.v 1)])])))))))))
  (.lt (.bin .eql (.v 5) (.c (.i .i64 1))) (.ite (.v 9)
  (.ite (.v 3)
  (.lt (.bin .eql (.v 4) (.c (.i .i64 0))) (.ite (.v 10)
  (.ret [(false, [(.c (.b false))])])
  (.lt (.un .not (.v 6)) (.ite (.v 11)
  (.ret [(false, [(.c (.b false))])])
  (.lt (.bin .eql (.v 4) (.c (.i .i64 0))) (.ite (.v 12)
  (.ret [(false, [(.v 2)])])
  (.lt (.bin .eql (.v 4) (.c (.i .i64 1))) (.ite (.v 13)
  (.ite (.v 0)
  (.ret [(false, [(.c (.b true))])])
  (.ite (.v 2)
  (.ret [(false, [(.v 7)])])
  (.ret [(false, [(.c (.b false))])])))
  (.ret [(false, [(.v 1)])])))))))))
  (.lt (.bin .eql (.v 4) (.c (.i .i64 0))) (.ite (.v 10)
  (.ret [(false, [(.v 2)])])
  (.lt (.bin .eql (.v 4) (.c (.i .i64 1))) (.ite (.v 11)
  (.ite (.v 0)
  (.ret [(false, [(.c (.b true))])])
  (.ite (.v 2)
  (.ret [(false, [(.v 7)])])
  (.ret [(false, [(.c (.b false))])])))
  (.ret [(false, [(.v 1)])]))))))
  (.lt (.bin .eql (.v 4) (.c (.i .i64 0))) (.ite (.v 10)
  (.ret [(false, [(.v 2)])])
  (.lt (.bin .eql (.v 4) (.c (.i .i64 1))) (.ite (.v 11)
  (.ite (.v 0)
  (.ret [(false, [(.c (.b true))])])
  (.ite (.v 2)
  (.ret [(false, [(.v 7)])])
  (.ret [(false, [(.c (.b false))])])))
  (.ret [(false, [(.v 1)])])))))))))
theorem atlasref08_Allows_c : compile envIrPerm 3000 15 = .ok atlasref08_Allows_ir := by kernel_rfl
theorem atlasref08_Allows_p : paramShape Tryd.prog 15 = some [(true, 4), (true, 4)] := by kernel_rfl
theorem atlasref08_Allows_k : Known gPerm 15 [(true, 4), (true, 4)] atlasref08_Allows_ir := ⟨envIrPerm, 3000, rfl, rfl, atlasref08_Allows_c, atlasref08_Allows_p⟩
/-- atlas/atlasref08.Number -/
def atlasref08_Number_ir : IR :=
  (.lt (.bin .rem (.v 0) (.c (.i .u8 2))) (.lt (.bin .eql (.v 1) (.c (.i .u8 1))) (.lt (.bin .quo (.v 0) (.c (.i .u8 2))) (.lt (.bin .rem (.v 3) (.c (.i .u8 2))) (.lt (.bin .eql (.v 4) (.c (.i .u8 1))) (.lt (.bin .quo (.v 0) (.c (.i .u8 4))) (.lt (.bin .rem (.v 6) (.c (.i .u8 2))) (.lt (.bin .eql (.v 7) (.c (.i .u8 1))) (.lt (.bin .quo (.v 0) (.c (.i .u8 8))) (.lt (.bin .rem (.v 9) (.c (.i .u8 2))) (.lt (.bin .eql (.v 10) (.c (.i .u8 1))) (.ret [(true, [(.v 2), (.v 5), (.v 8), (.v 11)])]))))))))))))
theorem atlasref08_Number_c : compile envIrPerm 3000 16 = .ok atlasref08_Number_ir := by kernel_rfl
theorem atlasref08_Number_p : paramShape Tryd.prog 16 = some [(false, 1)] := by kernel_rfl
theorem atlasref08_Number_k : Known gPerm 16 [(false, 1)] atlasref08_Number_ir := ⟨envIrPerm, 3000, rfl, rfl, atlasref08_Number_c, atlasref08_Number_p⟩
/-- atlas/atlasref08.Way -/
def atlasref08_Way_ir : IR :=
  (.lt (.cv .i64 (.v 0)) (.lt (.bin .rem (.v 1) (.c (.i .i64 3))) (.lt (.cv .i64 (.v 0)) (.lt (.bin .quo (.v 3) (.c (.i .i64 3))) (.lt (.bin .rem (.v 4) (.c (.i .i64 2))) (.lt (.bin .quo (.v 0) (.c (.i .u8 6))) (.lt (.bin .rem (.v 6) (.c (.i .u8 2))) (.lt (.bin .eql (.v 7) (.c (.i .u8 1))) (.lt (.bin .quo (.v 0) (.c (.i .u8 12))) (.lt (.bin .rem (.v 9) (.c (.i .u8 2))) (.lt (.bin .eql (.v 10) (.c (.i .u8 1))) (.ret [(true, [(.v 2), (.v 5), (.v 8), (.v 11)])]))))))))))))
theorem atlasref08_Way_c : compile envIrPerm 3000 17 = .ok atlasref08_Way_ir := by kernel_rfl
theorem atlasref08_Way_p : paramShape Tryd.prog 17 = some [(false, 1)] := by kernel_rfl
theorem atlasref08_Way_k : Known gPerm 17 [(false, 1)] atlasref08_Way_ir := ⟨envIrPerm, 3000, rfl, rfl, atlasref08_Way_c, atlasref08_Way_p⟩
/-- atlas/perm.reaches -/
def perm_reaches_ir : IR :=
  (.lt (.bin .eql (.v 5) (.c (.i .i64 0))) (.ite (.v 8)
  (.lt (.bin .eql (.v 5) (.c (.i .i64 0))) (.lt (.eqt true (.v 9) (.v 3)) (.ret [(false, [(.v 10)])])))
  (.lt (.un .not (.v 3)) (.ite (.v 9)
  (.lt (.bin .eql (.v 5) (.c (.i .i64 0))) (.lt (.eqt true (.v 10) (.v 3)) (.ret [(false, [(.v 11)])])))
  (.lt (.bin .neq (.v 4) (.c (.i .i64 0))) (.ite (.v 10)
  (.ret [(false, [(.v 6)])])
  (.ret [(false, [(.c (.b false))])])))))))
theorem perm_reaches_c : compile envIrPerm 3000 18 = .ok perm_reaches_ir := by kernel_rfl
theorem perm_reaches_p : paramShape Tryd.prog 18 = some [(true, 4), (true, 4)] := by kernel_rfl
theorem perm_reaches_k : Known gPerm 18 [(true, 4), (true, 4)] perm_reaches_ir := ⟨envIrPerm, 3000, rfl, rfl, perm_reaches_c, perm_reaches_p⟩
/-- atlas/perm.asks$1 -/
def perm_asks_1_ir : IR :=
  (.ret [(false, [(.v 2)])])
theorem perm_asks_1_c : compile envIrPerm 3000 35 = .ok perm_asks_1_ir := by kernel_rfl
theorem perm_asks_1_p : paramShape Tryd.prog 35 = some [(true, 4), (true, 4)] := by kernel_rfl
theorem perm_asks_1_k : Known gPerm 35 [(true, 4), (true, 4)] perm_asks_1_ir := ⟨envIrPerm, 3000, rfl, rfl, perm_asks_1_c, perm_asks_1_p⟩
/-- atlas/perm.asks$2 -/
def perm_asks_2_ir : IR :=
  (.ite (.v 0)
  (.ret [(false, [(.c (.b true))])])
  (.ite (.v 2)
  (.ret [(false, [(.v 7)])])
  (.ret [(false, [(.c (.b false))])])))
theorem perm_asks_2_c : compile envIrPerm 3000 36 = .ok perm_asks_2_ir := by kernel_rfl
theorem perm_asks_2_p : paramShape Tryd.prog 36 = some [(true, 4), (true, 4)] := by kernel_rfl
theorem perm_asks_2_k : Known gPerm 36 [(true, 4), (true, 4)] perm_asks_2_ir := ⟨envIrPerm, 3000, rfl, rfl, perm_asks_2_c, perm_asks_2_p⟩
/-- atlas/perm.asks$3 -/
def perm_asks_3_ir : IR :=
  (.ret [(false, [(.v 1)])])
theorem perm_asks_3_c : compile envIrPerm 3000 37 = .ok perm_asks_3_ir := by kernel_rfl
theorem perm_asks_3_p : paramShape Tryd.prog 37 = some [(true, 4), (true, 4)] := by kernel_rfl
theorem perm_asks_3_k : Known gPerm 37 [(true, 4), (true, 4)] perm_asks_3_ir := ⟨envIrPerm, 3000, rfl, rfl, perm_asks_3_c, perm_asks_3_p⟩
def TIrPerm : Tbl := [(3, [(true, 4), (true, 4), (true, 4)], atlaslaw08_PermAsks_ir),(4, [(false, 1)], atlaslaw08_PermDecides_ir),(5, [(false, 1), (false, 1), (false, 1)], atlaslaw08_PermLess_ir),(6, [(false, 1), (false, 1)], atlaslaw08_PermUser_ir),(7, [], atlaslaw08_awake_ir),(8, [(true, 4)], perm_Is_ir),(9, [(true, 4)], atlasref08_Is_ir),(10, [(true, 4)], perm_May_ir),(11, [(true, 4)], atlasref08_May_ir),(12, [(true, 4), (true, 4)], perm_Less_ir),(13, [(true, 4), (true, 4)], atlasref08_Less_ir),(14, [(true, 4), (true, 4)], perm_Allows_ir),(15, [(true, 4), (true, 4)], atlasref08_Allows_ir),(16, [(false, 1)], atlasref08_Number_ir),(17, [(false, 1)], atlasref08_Way_ir),(18, [(true, 4), (true, 4)], perm_reaches_ir),(35, [(true, 4), (true, 4)], perm_asks_1_ir),(36, [(true, 4), (true, 4)], perm_asks_2_ir),(37, [(true, 4), (true, 4)], perm_asks_3_ir)]
theorem TIrPerm_ok : ∀ x ∈ TIrPerm, Known gPerm x.1 x.2.1 x.2.2 := List.forall_mem_cons.2 ⟨atlaslaw08_PermAsks_k,  List.forall_mem_cons.2 ⟨atlaslaw08_PermDecides_k,  List.forall_mem_cons.2 ⟨atlaslaw08_PermLess_k,  List.forall_mem_cons.2 ⟨atlaslaw08_PermUser_k,  List.forall_mem_cons.2 ⟨atlaslaw08_awake_k,  List.forall_mem_cons.2 ⟨perm_Is_k,  List.forall_mem_cons.2 ⟨atlasref08_Is_k,  List.forall_mem_cons.2 ⟨perm_May_k,  List.forall_mem_cons.2 ⟨atlasref08_May_k,  List.forall_mem_cons.2 ⟨perm_Less_k,  List.forall_mem_cons.2 ⟨atlasref08_Less_k,  List.forall_mem_cons.2 ⟨perm_Allows_k,  List.forall_mem_cons.2 ⟨atlasref08_Allows_k,  List.forall_mem_cons.2 ⟨atlasref08_Number_k,  List.forall_mem_cons.2 ⟨atlasref08_Way_k,  List.forall_mem_cons.2 ⟨perm_reaches_k,  List.forall_mem_cons.2 ⟨perm_asks_1_k,  List.forall_mem_cons.2 ⟨perm_asks_2_k,  List.forall_mem_cons.2 ⟨perm_asks_3_k, fun _ h => nomatch h⟩⟩⟩⟩⟩⟩⟩⟩⟩⟩⟩⟩⟩⟩⟩⟩⟩⟩⟩
end Go.Proofs.YtkgomfkjeonmfaaDoor.Sx
