/-
  IRs of functions, printed by a program of mine (wip/tools/mkir.py, ev.run.lean); each is checked by the kernel against the executor.
-/
import Derived.Test.YtlihbielphcgbaaGreatDoorBf
import Derived.Test.YtlihbielphcgbaaGreatDoorProg
namespace Go.Proofs.YtlihbielphcgbaaGreatDoor.Sx
open Go
set_option maxRecDepth 100000
def inlenvIrCo : List FuncId :=
  67 ::
  []
noncomputable def envIrCo : Env := { P := Tryz.prog, G := gAll, inl := inlenvIrCo, unr := [], ded := true }
/-- atlas/atlaslaw26.after -/
def atlaslaw26_after_ir : IR :=
  (.call 16 [(true, (vr 0 4))] [(true, 13)]
  (.loop ([(.c (.i .i64 0))] ++ vr 5 13)
  (.lt (.len (.v 4)) (.lt (.bin .lss (.v 18) (.v 32)) (.ite (.v 33)
  (.chk (.inb (.v 4) (.v 18) 12) (.call 15 [(true, (vr 19 13)), (true, (idr (.v 4) (.v 18) 0 12))] [(true, 13), (true, 6)]
  (.lt (.bin .add (.v 18) (.c (.i .i64 1))) (.cont 0 ([(.v 53)] ++ vr 34 13)))))
  (.ret [(true, (vr 19 13))]))))))
theorem atlaslaw26_after_c : compile envIrCo 3000 10 = .ok atlaslaw26_after_ir := by kernel_rfl
theorem atlaslaw26_after_p : paramShape Tryz.prog 10 = some [(true, 4), (false, 1)] := by kernel_rfl
theorem atlaslaw26_after_k : Known gAll 10 (.ir [(true, 4), (false, 1)] atlaslaw26_after_ir) := known_ir (E := envIrCo) (n := 3000) rfl rfl atlaslaw26_after_c atlaslaw26_after_p
/-- atlas/cost.Of -/
def cost_Of_ir : IR :=
  (.call 17 [(true, (vr 0 13)), (true, (vr 13 12))] [(true, 13), (true, 6)]
  (.lt (.bin .neq (.v 13) (.c (.i .i64 4))) (.ite (.v 44)
  (.lt (.bin .neq (.v 13) (.c (.i .i64 5))) (.ite (.v 45)
  (.ret [(true, [(.c (.i .i64 0)), (.c (.i .i64 0)), (.c (.b false))])])
  (.lt (.bin .neq (.v 38) (.c (.i .i64 0))) (.ite (.v 46)
  (.ret [(true, [(.c (.i .i64 0)), (.c (.i .i64 0)), (.c (.b false))])])
  (.call 20 [(true, (vr 0 13)), (true, (vr 13 12))] [(true, 13)]
  (.call 19 [(true, (vr 47 13)), (true, (vr 13 12))] [(false, 1)]
  (.call 18 [(false, [(.v 60)]), (true, (vr 13 12))] [(false, 1)]
  (.lt (.bin .eql (.v 14) (.c (.i .i64 (-1)))) (.ite (.v 62)
  (.lt (.bin .gtr (.v 61) (.c (.i .i64 0))) (.lt (.bin .gtr (.v 61) (.c (.i .i64 16))) (.ite (.v 64)
  (.ret [(true, [(.c (.i .i64 0)), (.c (.i .i64 1)), (.v 63)])])
  (.ret [(true, [(.v 61), (.c (.i .i64 0)), (.v 63)])]))))
  (.lt (.bin .gtr (.v 61) (.c (.i .i64 16))) (.ite (.v 63)
  (.ret [(true, [(.c (.i .i64 0)), (.c (.i .i64 1)), (.c (.b false))])])
  (.ret [(true, [(.v 61), (.c (.i .i64 0)), (.c (.b false))])]))))))))))))
  (.lt (.bin .neq (.v 38) (.c (.i .i64 0))) (.ite (.v 45)
  (.ret [(true, [(.c (.i .i64 0)), (.c (.i .i64 0)), (.c (.b false))])])
  (.call 20 [(true, (vr 0 13)), (true, (vr 13 12))] [(true, 13)]
  (.call 19 [(true, (vr 46 13)), (true, (vr 13 12))] [(false, 1)]
  (.call 18 [(false, [(.v 59)]), (true, (vr 13 12))] [(false, 1)]
  (.lt (.bin .eql (.v 14) (.c (.i .i64 (-1)))) (.ite (.v 61)
  (.lt (.bin .gtr (.v 60) (.c (.i .i64 0))) (.lt (.bin .gtr (.v 60) (.c (.i .i64 16))) (.ite (.v 63)
  (.ret [(true, [(.c (.i .i64 0)), (.c (.i .i64 1)), (.v 62)])])
  (.ret [(true, [(.v 60), (.c (.i .i64 0)), (.v 62)])]))))
  (.lt (.bin .gtr (.v 60) (.c (.i .i64 16))) (.ite (.v 62)
  (.ret [(true, [(.c (.i .i64 0)), (.c (.i .i64 1)), (.c (.b false))])])
  (.ret [(true, [(.v 60), (.c (.i .i64 0)), (.c (.b false))])])))))))))))))
theorem cost_Of_c : compile envIrCo 3000 11 = .ok cost_Of_ir := by kernel_rfl
theorem cost_Of_p : paramShape Tryz.prog 11 = some [(true, 13), (true, 12)] := by kernel_rfl
theorem cost_Of_k : Known gAll 11 (.ir [(true, 13), (true, 12)] cost_Of_ir) := known_ir (E := envIrCo) (n := 3000) rfl rfl cost_Of_c cost_Of_p
/-- atlas/atlasref26.Of -/
def atlasref26_Of_ir : IR :=
  (.call 15 [(true, (vr 0 13)), (true, (vr 13 12))] [(true, 13), (true, 6)]
  (.lt (.bin .neq (.v 38) (.c (.i .i64 0))) (.ite (.v 44)
  (.ret [(true, [(.c (.i .i64 0)), (.c (.i .i64 0)), (.c (.b false))])])
  (.lt (.bin .neq (.v 13) (.c (.i .i64 4))) (.ite (.v 45)
  (.lt (.bin .neq (.v 13) (.c (.i .i64 5))) (.ite (.v 46)
  (.ret [(true, [(.c (.i .i64 0)), (.c (.i .i64 0)), (.c (.b false))])])
  (.call 23 [(true, (vr 0 13)), (false, [(.v 14)])] [(false, 1)]
  (.call 22 [(false, [(.v 47)]), (false, [(.v 15)]), (false, [(.v 17)])] [(false, 1)]
  (.call 21 [(false, [(.v 48)]), (false, [(.v 15)]), (false, [(.v 17)])] [(false, 1)]
  (.loop [(.c (.i .i64 0)), (.c (.i .i64 0))]
  (.lt (.len (.v 49)) (.lt (.bin .lss (.v 51) (.v 52)) (.ite (.v 53)
  (.lt (.bin .eql (.v 13) (.c (.i .i64 4))) (.ite (.v 54)
  (.lt (.bin .add (.v 50) (.c (.i .i64 1))) (.lt (.bin .add (.v 51) (.c (.i .i64 1))) (.cont 0 [(.v 55), (.v 56)])))
  (.chk (.inb (.v 49) (.v 51) 8) (.call 24 [(true, (vr 18 4)), (true, (idr (.v 49) (.v 51) 3 4))] [(false, 1)]
  (.ite (.v 55)
  (.lt (.bin .add (.v 50) (.c (.i .i64 1))) (.lt (.bin .add (.v 51) (.c (.i .i64 1))) (.cont 0 [(.v 56), (.v 57)])))
  (.lt (.bin .add (.v 51) (.c (.i .i64 1))) (.cont 0 [(.v 50), (.v 56)])))))))
  (.lt (.bin .eql (.v 50) (.c (.i .i64 0))) (.ite (.v 54)
  (.ret [(true, [(.c (.i .i64 0)), (.c (.i .i64 0)), (.c (.b false))])])
  (.lt (.bin .gtr (.v 50) (.c (.i .i64 16))) (.ite (.v 55)
  (.lt (.bin .eql (.v 14) (.c (.i .i64 (-1)))) (.ret [(true, [(.c (.i .i64 0)), (.c (.i .i64 1)), (.v 56)])]))
  (.lt (.bin .eql (.v 14) (.c (.i .i64 (-1)))) (.ret [(true, [(.v 50), (.c (.i .i64 0)), (.v 56)])])))))))))))))))
  (.call 23 [(true, (vr 0 13)), (false, [(.v 14)])] [(false, 1)]
  (.call 22 [(false, [(.v 46)]), (false, [(.v 15)]), (false, [(.v 17)])] [(false, 1)]
  (.call 21 [(false, [(.v 47)]), (false, [(.v 15)]), (false, [(.v 17)])] [(false, 1)]
  (.loop [(.c (.i .i64 0)), (.c (.i .i64 0))]
  (.lt (.len (.v 48)) (.lt (.bin .lss (.v 50) (.v 51)) (.ite (.v 52)
  (.lt (.bin .eql (.v 13) (.c (.i .i64 4))) (.ite (.v 53)
  (.lt (.bin .add (.v 49) (.c (.i .i64 1))) (.lt (.bin .add (.v 50) (.c (.i .i64 1))) (.cont 0 [(.v 54), (.v 55)])))
  (.chk (.inb (.v 48) (.v 50) 8) (.call 24 [(true, (vr 18 4)), (true, (idr (.v 48) (.v 50) 3 4))] [(false, 1)]
  (.ite (.v 54)
  (.lt (.bin .add (.v 49) (.c (.i .i64 1))) (.lt (.bin .add (.v 50) (.c (.i .i64 1))) (.cont 0 [(.v 55), (.v 56)])))
  (.lt (.bin .add (.v 50) (.c (.i .i64 1))) (.cont 0 [(.v 49), (.v 55)])))))))
  (.lt (.bin .eql (.v 49) (.c (.i .i64 0))) (.ite (.v 53)
  (.ret [(true, [(.c (.i .i64 0)), (.c (.i .i64 0)), (.c (.b false))])])
  (.lt (.bin .gtr (.v 49) (.c (.i .i64 16))) (.ite (.v 54)
  (.lt (.bin .eql (.v 14) (.c (.i .i64 (-1)))) (.ret [(true, [(.c (.i .i64 0)), (.c (.i .i64 1)), (.v 55)])]))
  (.lt (.bin .eql (.v 14) (.c (.i .i64 (-1)))) (.ret [(true, [(.v 49), (.c (.i .i64 0)), (.v 55)])]))))))))))))))))))
theorem atlasref26_Of_c : compile envIrCo 3000 12 = .ok atlasref26_Of_ir := by kernel_rfl
theorem atlasref26_Of_p : paramShape Tryz.prog 12 = some [(true, 13), (true, 12)] := by kernel_rfl
theorem atlasref26_Of_k : Known gAll 12 (.ir [(true, 13), (true, 12)] atlasref26_Of_ir) := known_ir (E := envIrCo) (n := 3000) rfl rfl atlasref26_Of_c atlasref26_Of_p
/-- atlas/cost.Fits -/
def cost_Fits_ir : IR :=
  (.lt (.len (.v 3)) (.lt (.bin .add (.v 0) (.v 1)) (.lt (.bin .neq (.v 5) (.v 6)) (.ite (.v 7)
  (.ret [(false, [(.c (.b false))])])
  (.lt (.len (.v 3)) (.loop [(.c (.b false)), (.c (.i .i64 0))]
  (.lt (.bin .lss (.v 10) (.v 8)) (.ite (.v 11)
  (.chk (.inb (.v 3) (.v 10) 4) (.lt (.un .not (.v 2)) (.lt (.un .not (.v 2)) (.ite (.v 13)
  (.lt (.un .not (.ite (.eqt true (.idx (.v 3) (.v 10) 0) (.idx (.v 3) (.v 10) 0)) (.ite (.eqt false (.idx (.v 3) (.v 10) 1) (.idx (.v 3) (.v 10) 1)) (.ite (.eqt true (.idx (.v 3) (.v 10) 2) (.v 12)) (.ite (.eqt false (.idx (.v 3) (.v 10) 3) (.v 4)) (.c (.b true)) (.c (.b false))) (.c (.b false))) (.c (.b false))) (.c (.b false)))) (.ite (.v 14)
  (.ret [(false, [(.c (.b false))])])
  (.ite (.idx (.v 3) (.v 10) 0)
  (.lt (.bin .neq (.v 1) (.c (.i .i64 0))) (.ite (.v 15)
  (.ret [(false, [(.c (.b false))])])
  (.lt (.un .not (.idx (.v 3) (.v 10) 0)) (.ite (.v 16)
  (.lt (.bin .neq (.v 0) (.c (.i .i64 0))) (.ite (.v 17)
  (.ret [(false, [(.c (.b false))])])
  (.lt (.bin .add (.v 10) (.c (.i .i64 1))) (.cont 0 [(.v 9), (.v 18)]))))
  (.lt (.bin .add (.v 10) (.c (.i .i64 1))) (.cont 0 [(.v 9), (.v 17)]))))))
  (.lt (.un .not (.idx (.v 3) (.v 10) 0)) (.ite (.v 15)
  (.lt (.bin .neq (.v 0) (.c (.i .i64 0))) (.ite (.v 16)
  (.ret [(false, [(.c (.b false))])])
  (.lt (.bin .add (.v 10) (.c (.i .i64 1))) (.cont 0 [(.v 9), (.v 17)]))))
  (.lt (.bin .add (.v 10) (.c (.i .i64 1))) (.cont 0 [(.v 9), (.v 16)])))))))
  (.lt (.un .not (.ite (.eqt true (.idx (.v 3) (.v 10) 0) (.idx (.v 3) (.v 10) 0)) (.ite (.eqt false (.idx (.v 3) (.v 10) 1) (.idx (.v 3) (.v 10) 1)) (.ite (.eqt true (.idx (.v 3) (.v 10) 2) (.v 12)) (.ite (.eqt false (.idx (.v 3) (.v 10) 3) (.c (.i .u64 0))) (.c (.b true)) (.c (.b false))) (.c (.b false))) (.c (.b false))) (.c (.b false)))) (.ite (.v 14)
  (.ret [(false, [(.c (.b false))])])
  (.ite (.idx (.v 3) (.v 10) 0)
  (.lt (.bin .neq (.v 1) (.c (.i .i64 0))) (.ite (.v 15)
  (.ret [(false, [(.c (.b false))])])
  (.lt (.un .not (.idx (.v 3) (.v 10) 0)) (.ite (.v 16)
  (.lt (.bin .neq (.v 0) (.c (.i .i64 0))) (.ite (.v 17)
  (.ret [(false, [(.c (.b false))])])
  (.lt (.bin .add (.v 10) (.c (.i .i64 1))) (.cont 0 [(.v 9), (.v 18)]))))
  (.lt (.bin .add (.v 10) (.c (.i .i64 1))) (.cont 0 [(.v 9), (.v 17)]))))))
  (.lt (.un .not (.idx (.v 3) (.v 10) 0)) (.ite (.v 15)
  (.lt (.bin .neq (.v 0) (.c (.i .i64 0))) (.ite (.v 16)
  (.ret [(false, [(.c (.b false))])])
  (.lt (.bin .add (.v 10) (.c (.i .i64 1))) (.cont 0 [(.v 9), (.v 17)]))))
  (.lt (.bin .add (.v 10) (.c (.i .i64 1))) (.cont 0 [(.v 9), (.v 16)])))))))))))
  (.ret [(false, [(.c (.b true))])])))))))))
theorem cost_Fits_c : compile envIrCo 3000 13 = .ok cost_Fits_ir := by kernel_rfl
theorem cost_Fits_p : paramShape Tryz.prog 13 = some [(true, 3), (false, 1), (false, 1)] := by kernel_rfl
theorem cost_Fits_k : Known gAll 13 (.ir [(true, 3), (false, 1), (false, 1)] cost_Fits_ir) := known_ir (E := envIrCo) (n := 3000) rfl rfl cost_Fits_c cost_Fits_p
/-- atlas/atlasref26.Fits -/
def atlasref26_Fits_ir : IR :=
  (.loop [(.c (.b false)), (.c (.i .i64 0))]
  (.lt (.len (.v 3)) (.lt (.bin .lss (.v 6) (.v 7)) (.ite (.v 8)
  (.lt (.bin .neq (.v 0) (.c (.i .i64 0))) (.ite (.v 9)
  (.chk (.inb (.v 3) (.v 6) 4) (.lt (.un .not (.idx (.v 3) (.v 6) 0)) (.ite (.v 10)
  (.ret [(false, [(.c (.b false))])])
  (.lt (.bin .neq (.v 1) (.c (.i .i64 0))) (.ite (.v 11)
  (.chk (.inb (.v 3) (.v 6) 4) (.ite (.idx (.v 3) (.v 6) 0)
  (.ret [(false, [(.c (.b false))])])
  (.chk (.inb (.v 3) (.v 6) 4) (.lt (.eqt true (.idx (.v 3) (.v 6) 2) (.v 2)) (.ite (.v 12)
  (.ret [(false, [(.c (.b false))])])
  (.lt (.un .not (.v 2)) (.ite (.v 13)
  (.chk (.inb (.v 3) (.v 6) 4) (.lt (.bin .neq (.idx (.v 3) (.v 6) 3) (.v 4)) (.ite (.v 14)
  (.ret [(false, [(.c (.b false))])])
  (.ite (.v 2)
  (.chk (.inb (.v 3) (.v 6) 4) (.lt (.bin .neq (.idx (.v 3) (.v 6) 3) (.c (.i .u64 0))) (.ite (.v 15)
  (.ret [(false, [(.c (.b false))])])
  (.lt (.bin .add (.v 6) (.c (.i .i64 1))) (.cont 0 [(.v 5), (.v 16)])))))
  (.lt (.bin .add (.v 6) (.c (.i .i64 1))) (.cont 0 [(.v 5), (.v 15)]))))))
  (.ite (.v 2)
  (.chk (.inb (.v 3) (.v 6) 4) (.lt (.bin .neq (.idx (.v 3) (.v 6) 3) (.c (.i .u64 0))) (.ite (.v 14)
  (.ret [(false, [(.c (.b false))])])
  (.lt (.bin .add (.v 6) (.c (.i .i64 1))) (.cont 0 [(.v 5), (.v 15)])))))
  (.lt (.bin .add (.v 6) (.c (.i .i64 1))) (.cont 0 [(.v 5), (.v 14)]))))))))))
  (.chk (.inb (.v 3) (.v 6) 4) (.lt (.eqt true (.idx (.v 3) (.v 6) 2) (.v 2)) (.ite (.v 12)
  (.ret [(false, [(.c (.b false))])])
  (.lt (.un .not (.v 2)) (.ite (.v 13)
  (.chk (.inb (.v 3) (.v 6) 4) (.lt (.bin .neq (.idx (.v 3) (.v 6) 3) (.v 4)) (.ite (.v 14)
  (.ret [(false, [(.c (.b false))])])
  (.ite (.v 2)
  (.chk (.inb (.v 3) (.v 6) 4) (.lt (.bin .neq (.idx (.v 3) (.v 6) 3) (.c (.i .u64 0))) (.ite (.v 15)
  (.ret [(false, [(.c (.b false))])])
  (.lt (.bin .add (.v 6) (.c (.i .i64 1))) (.cont 0 [(.v 5), (.v 16)])))))
  (.lt (.bin .add (.v 6) (.c (.i .i64 1))) (.cont 0 [(.v 5), (.v 15)]))))))
  (.ite (.v 2)
  (.chk (.inb (.v 3) (.v 6) 4) (.lt (.bin .neq (.idx (.v 3) (.v 6) 3) (.c (.i .u64 0))) (.ite (.v 14)
  (.ret [(false, [(.c (.b false))])])
  (.lt (.bin .add (.v 6) (.c (.i .i64 1))) (.cont 0 [(.v 5), (.v 15)])))))
  (.lt (.bin .add (.v 6) (.c (.i .i64 1))) (.cont 0 [(.v 5), (.v 14)])))))))))))))
  (.lt (.bin .neq (.v 1) (.c (.i .i64 0))) (.ite (.v 10)
  (.chk (.inb (.v 3) (.v 6) 4) (.ite (.idx (.v 3) (.v 6) 0)
  (.ret [(false, [(.c (.b false))])])
  (.chk (.inb (.v 3) (.v 6) 4) (.lt (.eqt true (.idx (.v 3) (.v 6) 2) (.v 2)) (.ite (.v 11)
  (.ret [(false, [(.c (.b false))])])
  (.lt (.un .not (.v 2)) (.ite (.v 12)
  (.chk (.inb (.v 3) (.v 6) 4) (.lt (.bin .neq (.idx (.v 3) (.v 6) 3) (.v 4)) (.ite (.v 13)
  (.ret [(false, [(.c (.b false))])])
  (.ite (.v 2)
  (.chk (.inb (.v 3) (.v 6) 4) (.lt (.bin .neq (.idx (.v 3) (.v 6) 3) (.c (.i .u64 0))) (.ite (.v 14)
  (.ret [(false, [(.c (.b false))])])
  (.lt (.bin .add (.v 6) (.c (.i .i64 1))) (.cont 0 [(.v 5), (.v 15)])))))
  (.lt (.bin .add (.v 6) (.c (.i .i64 1))) (.cont 0 [(.v 5), (.v 14)]))))))
  (.ite (.v 2)
  (.chk (.inb (.v 3) (.v 6) 4) (.lt (.bin .neq (.idx (.v 3) (.v 6) 3) (.c (.i .u64 0))) (.ite (.v 13)
  (.ret [(false, [(.c (.b false))])])
  (.lt (.bin .add (.v 6) (.c (.i .i64 1))) (.cont 0 [(.v 5), (.v 14)])))))
  (.lt (.bin .add (.v 6) (.c (.i .i64 1))) (.cont 0 [(.v 5), (.v 13)]))))))))))
  (.chk (.inb (.v 3) (.v 6) 4) (.lt (.eqt true (.idx (.v 3) (.v 6) 2) (.v 2)) (.ite (.v 11)
  (.ret [(false, [(.c (.b false))])])
  (.lt (.un .not (.v 2)) (.ite (.v 12)
  (.chk (.inb (.v 3) (.v 6) 4) (.lt (.bin .neq (.idx (.v 3) (.v 6) 3) (.v 4)) (.ite (.v 13)
  (.ret [(false, [(.c (.b false))])])
  (.ite (.v 2)
  (.chk (.inb (.v 3) (.v 6) 4) (.lt (.bin .neq (.idx (.v 3) (.v 6) 3) (.c (.i .u64 0))) (.ite (.v 14)
  (.ret [(false, [(.c (.b false))])])
  (.lt (.bin .add (.v 6) (.c (.i .i64 1))) (.cont 0 [(.v 5), (.v 15)])))))
  (.lt (.bin .add (.v 6) (.c (.i .i64 1))) (.cont 0 [(.v 5), (.v 14)]))))))
  (.ite (.v 2)
  (.chk (.inb (.v 3) (.v 6) 4) (.lt (.bin .neq (.idx (.v 3) (.v 6) 3) (.c (.i .u64 0))) (.ite (.v 13)
  (.ret [(false, [(.c (.b false))])])
  (.lt (.bin .add (.v 6) (.c (.i .i64 1))) (.cont 0 [(.v 5), (.v 14)])))))
  (.lt (.bin .add (.v 6) (.c (.i .i64 1))) (.cont 0 [(.v 5), (.v 13)]))))))))))))
  (.lt (.len (.v 3)) (.lt (.bin .add (.v 0) (.v 1)) (.lt (.bin .eql (.v 9) (.v 10)) (.ret [(false, [(.v 11)])]))))))))
theorem atlasref26_Fits_c : compile envIrCo 3000 14 = .ok atlasref26_Fits_ir := by kernel_rfl
theorem atlasref26_Fits_p : paramShape Tryz.prog 14 = some [(true, 3), (false, 1), (false, 1)] := by kernel_rfl
theorem atlasref26_Fits_k : Known gAll 14 (.ir [(true, 3), (false, 1), (false, 1)] atlasref26_Fits_ir) := known_ir (E := envIrCo) (n := 3000) rfl rfl atlasref26_Fits_c atlasref26_Fits_p
/-- atlas/cost.lesser -/
def cost_lesser_ir : IR :=
  (.lt (.len (.v 0)) (.loop [(.c (.i .i64 0)), (.c (.i .i64 0))]
  (.lt (.bin .lss (.v 15) (.v 13)) (.ite (.v 16)
  (.chk (.inb (.v 0) (.v 15) 8) (.lt (.bin .eql (.v 1) (.c (.i .i64 4))) (.ite (.v 17)
  (.lt (.bin .add (.v 14) (.c (.i .i64 1))) (.lt (.bin .add (.v 15) (.c (.i .i64 1))) (.cont 0 [(.v 18), (.v 19)])))
  (.call 39 [(true, (vr 6 4)), (true, (idr (.v 0) (.v 15) 3 4))] [(false, 1)]
  (.ite (.v 18)
  (.lt (.bin .add (.v 14) (.c (.i .i64 1))) (.lt (.bin .add (.v 15) (.c (.i .i64 1))) (.cont 0 [(.v 19), (.v 20)])))
  (.lt (.bin .add (.v 15) (.c (.i .i64 1))) (.cont 0 [(.v 14), (.v 19)])))))))
  (.ret [(false, [(.v 14)])])))))
theorem cost_lesser_c : compile envIrCo 3000 18 = .ok cost_lesser_ir := by kernel_rfl
theorem cost_lesser_p : paramShape Tryz.prog 18 = some [(false, 1), (true, 12)] := by kernel_rfl
theorem cost_lesser_k : Known gAll 18 (.ir [(false, 1), (true, 12)] cost_lesser_ir) := known_ir (E := envIrCo) (n := 3000) rfl rfl cost_lesser_c cost_lesser_p
/-- atlas/cost.pages -/
def cost_pages_ir : IR :=
  (.lt (.bin .geq (.v 14) (.c (.i .i64 0))) (.ite (.v 25)
  (.chk (.inb (.v 6) (.v 14) 1) (.lt (.len (.idx (.v 6) (.v 14) 0)) (.loop [(.c (.i .i64 0)), (.c (.sl 0 []))]
  (.lt (.bin .lss (.v 27) (.v 26)) (.ite (.v 29)
  (.chk (.inb (.idx (.v 6) (.v 14) 0) (.v 27) 8) (.lt (.bin .leq (.idx (.idx (.v 6) (.v 14) 0) (.v 27) 2) (.v 17)) (.ite (.v 30)
  (.lt (.bin .geq (.idx (.idx (.v 6) (.v 14) 0) (.v 27) 0) (.v 15)) (.ite (.v 31)
  (.lt (.bin .sub (.idx (.idx (.v 6) (.v 14) 0) (.v 27) 0) (.v 15)) (.call 40 [(false, [(.v 17)])] [(false, 1)]
  (.lt (.bin .lss (.v 32) (.v 33)) (.ite (.v 34)
  (.chk (.room (.len (.app 8 (.v 28) (.one [(.idx (.idx (.v 6) (.v 14) 0) (.v 27) 0), (.idx (.idx (.v 6) (.v 14) 0) (.v 27) 1), (.idx (.idx (.v 6) (.v 14) 0) (.v 27) 2), (.idx (.idx (.v 6) (.v 14) 0) (.v 27) 3), (.idx (.idx (.v 6) (.v 14) 0) (.v 27) 4), (.idx (.idx (.v 6) (.v 14) 0) (.v 27) 5), (.idx (.idx (.v 6) (.v 14) 0) (.v 27) 6), (.idx (.idx (.v 6) (.v 14) 0) (.v 27) 7)]))) 33) (.lt (.bin .add (.v 27) (.c (.i .i64 1))) (.cont 0 [(.v 35), (.app 8 (.v 28) (.one [(.idx (.idx (.v 6) (.v 14) 0) (.v 27) 0), (.idx (.idx (.v 6) (.v 14) 0) (.v 27) 1), (.idx (.idx (.v 6) (.v 14) 0) (.v 27) 2), (.idx (.idx (.v 6) (.v 14) 0) (.v 27) 3), (.idx (.idx (.v 6) (.v 14) 0) (.v 27) 4), (.idx (.idx (.v 6) (.v 14) 0) (.v 27) 5), (.idx (.idx (.v 6) (.v 14) 0) (.v 27) 6), (.idx (.idx (.v 6) (.v 14) 0) (.v 27) 7)]))])))
  (.lt (.bin .add (.v 27) (.c (.i .i64 1))) (.cont 0 [(.v 35), (.v 28)]))))))
  (.lt (.bin .add (.v 27) (.c (.i .i64 1))) (.cont 0 [(.v 32), (.v 28)]))))
  (.lt (.bin .add (.v 27) (.c (.i .i64 1))) (.cont 0 [(.v 31), (.v 28)])))))
  (.ret [(false, [(.v 28)])]))))))
  (.lt (.len (.v 8)) (.loop [(.c (.i .i64 0)), (.c (.sl 0 []))]
  (.lt (.bin .lss (.v 27) (.v 26)) (.ite (.v 29)
  (.chk (.inb (.v 8) (.v 27) 8) (.lt (.bin .leq (.idx (.v 8) (.v 27) 2) (.v 17)) (.ite (.v 30)
  (.lt (.bin .geq (.idx (.v 8) (.v 27) 0) (.v 15)) (.ite (.v 31)
  (.lt (.bin .sub (.idx (.v 8) (.v 27) 0) (.v 15)) (.call 40 [(false, [(.v 17)])] [(false, 1)]
  (.lt (.bin .lss (.v 32) (.v 33)) (.ite (.v 34)
  (.chk (.room (.len (.app 8 (.v 28) (.one (idr (.v 8) (.v 27) 0 8)))) 33) (.lt (.bin .add (.v 27) (.c (.i .i64 1))) (.cont 0 [(.v 35), (.app 8 (.v 28) (.one (idr (.v 8) (.v 27) 0 8)))])))
  (.lt (.bin .add (.v 27) (.c (.i .i64 1))) (.cont 0 [(.v 35), (.v 28)]))))))
  (.lt (.bin .add (.v 27) (.c (.i .i64 1))) (.cont 0 [(.v 32), (.v 28)]))))
  (.lt (.bin .add (.v 27) (.c (.i .i64 1))) (.cont 0 [(.v 31), (.v 28)])))))
  (.ret [(false, [(.v 28)])])))))))
theorem cost_pages_c : compile envIrCo 3000 19 = .ok cost_pages_ir := by kernel_rfl
theorem cost_pages_p : paramShape Tryz.prog 19 = some [(true, 13), (true, 12)] := by kernel_rfl
theorem cost_pages_k : Known gAll 19 (.ir [(true, 13), (true, 12)] cost_pages_ir) := known_ir (E := envIrCo) (n := 3000) rfl rfl cost_pages_c cost_pages_p
/-- atlas/cost.cut -/
def cost_cut_ir : IR :=
  (.lt (.bin .geq (.v 14) (.c (.i .i64 0))) (.ite (.v 25)
  (.chk (.inb (.v 6) (.v 14) 1) (.lt (.len (.idx (.v 6) (.v 14) 0)) (.loop [(.c (.i .i64 0))]
  (.lt (.bin .lss (.v 27) (.v 26)) (.ite (.v 28)
  (.chk (.inb (.idx (.v 6) (.v 14) 0) (.v 27) 8) (.lt (.bin .gtr (.idx (.idx (.v 6) (.v 14) 0) (.v 27) 2) (.v 17)) (.ite (.v 29)
  (.lt (.bin .geq (.v 15) (.idx (.idx (.v 6) (.v 14) 0) (.v 27) 0)) (.ite (.v 30)
  (.lt (.bin .sub (.v 15) (.idx (.idx (.v 6) (.v 14) 0) (.v 27) 0)) (.call 40 [(false, [(.idx (.idx (.v 6) (.v 14) 0) (.v 27) 2)])] [(false, 1)]
  (.lt (.bin .lss (.v 31) (.v 32)) (.ite (.v 33)
  (.call 17 [(true, (vr 0 13)), (true, ([(.c (.i .i64 5))] ++ vr 14 4 ++ [(.idx (.idx (.v 6) (.v 14) 0) (.v 27) 3), (.idx (.idx (.v 6) (.v 14) 0) (.v 27) 4), (.idx (.idx (.v 6) (.v 14) 0) (.v 27) 5), (.idx (.idx (.v 6) (.v 14) 0) (.v 27) 6), (.v 22), (.v 23), (.v 24)]))] [(true, 13), (true, 6)]
  (.ret [(true, (vr 34 13))]))
  (.lt (.bin .add (.v 27) (.c (.i .i64 1))) (.cont 0 [(.v 34)]))))))
  (.lt (.bin .add (.v 27) (.c (.i .i64 1))) (.cont 0 [(.v 31)]))))
  (.lt (.bin .add (.v 27) (.c (.i .i64 1))) (.cont 0 [(.v 30)])))))
  (.ret [(true, (vr 0 13))]))))))
  (.lt (.len (.v 8)) (.loop [(.c (.i .i64 0))]
  (.lt (.bin .lss (.v 27) (.v 26)) (.ite (.v 28)
  (.chk (.inb (.v 8) (.v 27) 8) (.lt (.bin .gtr (.idx (.v 8) (.v 27) 2) (.v 17)) (.ite (.v 29)
  (.lt (.bin .geq (.v 15) (.idx (.v 8) (.v 27) 0)) (.ite (.v 30)
  (.lt (.bin .sub (.v 15) (.idx (.v 8) (.v 27) 0)) (.call 40 [(false, [(.idx (.v 8) (.v 27) 2)])] [(false, 1)]
  (.lt (.bin .lss (.v 31) (.v 32)) (.ite (.v 33)
  (.call 17 [(true, (vr 0 13)), (true, ([(.c (.i .i64 5))] ++ vr 14 4 ++ idr (.v 8) (.v 27) 3 4 ++ [(.v 22), (.v 23), (.v 24)]))] [(true, 13), (true, 6)]
  (.ret [(true, (vr 34 13))]))
  (.lt (.bin .add (.v 27) (.c (.i .i64 1))) (.cont 0 [(.v 34)]))))))
  (.lt (.bin .add (.v 27) (.c (.i .i64 1))) (.cont 0 [(.v 31)]))))
  (.lt (.bin .add (.v 27) (.c (.i .i64 1))) (.cont 0 [(.v 30)])))))
  (.ret [(true, (vr 0 13))])))))))
theorem cost_cut_c : compile envIrCo 3000 20 = .ok cost_cut_ir := by kernel_rfl
theorem cost_cut_p : paramShape Tryz.prog 20 = some [(true, 13), (true, 12)] := by kernel_rfl
theorem cost_cut_k : Known gAll 20 (.ir [(true, 13), (true, 12)] cost_cut_ir) := known_ir (E := envIrCo) (n := 3000) rfl rfl cost_cut_c cost_cut_p
noncomputable def envIrCoj : Env := { P := Tryz.prog, G := gAll, inl := [], unr := [], jn := List.range 400, ded := true }
/-- atlas/atlaslaw26.CostBills -/
def atlaslaw26_CostBills_ir : IR :=
  (.jn (.ite (.v 17)
  (.call 7 [] [(false, 1)]
  (.ret [(false, [(.v 18)])]))
  (.call 10 [(true, (vr 0 4)), (false, [(.v 4)])] [(true, 13)]
  (.call 11 [(true, (vr 18 13)), (true, (vr 5 12))] [(true, 3)]
  (.call 12 [(true, (vr 18 13)), (true, (vr 5 12))] [(true, 3)]
  (.lt (.ite (.eqt false (.v 31) (.v 34)) (.ite (.eqt false (.v 32) (.v 35)) (.ite (.eqt true (.v 33) (.v 36)) (.c (.b true)) (.c (.b false))) (.c (.b false))) (.c (.b false))) (.ret [(false, [(.v 37)])]))))))
  (.call 7 [] [(false, 1)]
  (.lt (.un .not (.v 17)) (.ite (.v 18)
  (.cont 0 [(.c (.b true))])
  (.call 8 [(true, (vr 0 4))] [(false, 1)]
  (.lt (.un .not (.v 19)) (.ite (.v 20)
  (.cont 0 [(.c (.b true))])
  (.call 9 [(false, [(.v 4)])] [(false, 1)]
  (.lt (.un .not (.v 21)) (.cont 0 [(.v 22)]))))))))))
theorem atlaslaw26_CostBills_c : compile envIrCoj 3000 3 = .ok atlaslaw26_CostBills_ir := by kernel_rfl
theorem atlaslaw26_CostBills_p : paramShape Tryz.prog 3 = some [(true, 4), (false, 1), (true, 12)] := by kernel_rfl
theorem atlaslaw26_CostBills_k : Known gAll 3 (.ir [(true, 4), (false, 1), (true, 12)] atlaslaw26_CostBills_ir) := known_ir (E := envIrCoj) (n := 3000) rfl rfl atlaslaw26_CostBills_c atlaslaw26_CostBills_p
/-- atlas/atlaslaw26.CostFits -/
def atlaslaw26_CostFits_ir : IR :=
  (.jn (.ite (.v 5)
  (.call 7 [] [(false, 1)]
  (.ret [(false, [(.v 6)])]))
  (.loop [(.c (.b false)), (.c (.i .i64 0))]
  (.lt (.len (.v 3)) (.lt (.bin .lss (.v 7) (.v 8)) (.ite (.v 9)
  (.jn (.ite (.v 10)
  (.ret [(false, [(.c (.b true))])])
  (.lt (.bin .add (.v 7) (.c (.i .i64 1))) (.cont 0 [(.v 6), (.v 11)])))
  (.chk (.inb (.v 3) (.v 7) 4) (.lt (.un .not (.idx (.v 3) (.v 7) 2)) (.ite (.v 10)
  (.chk (.inb (.v 3) (.v 7) 4) (.lt (.bin .neq (.idx (.v 3) (.v 7) 3) (.c (.i .u64 0))) (.cont 1 [(.v 11)])))
  (.cont 1 [(.c (.b false))])))))
  (.call 13 [(true, [(.v 0), (.v 1), (.v 2)]), (false, [(.v 3)]), (false, [(.v 4)])] [(false, 1)]
  (.call 14 [(true, [(.v 0), (.v 1), (.v 2)]), (false, [(.v 3)]), (false, [(.v 4)])] [(false, 1)]
  (.lt (.eqt true (.v 10) (.v 11)) (.ret [(false, [(.v 12)])])))))))))
  (.call 7 [] [(false, 1)]
  (.lt (.un .not (.v 5)) (.ite (.v 6)
  (.cont 0 [(.c (.b true))])
  (.lt (.len (.v 3)) (.lt (.bin .gtr (.v 7) (.c (.i .i64 100))) (.ite (.v 8)
  (.cont 0 [(.c (.b true))])
  (.lt (.bin .lss (.v 0) (.c (.i .i64 0))) (.ite (.v 9)
  (.cont 0 [(.c (.b true))])
  (.lt (.bin .lss (.v 1) (.c (.i .i64 0))) (.ite (.v 10)
  (.cont 0 [(.c (.b true))])
  (.lt (.bin .gtr (.v 0) (.c (.i .i64 1000))) (.ite (.v 11)
  (.cont 0 [(.c (.b true))])
  (.lt (.bin .gtr (.v 1) (.c (.i .i64 1000))) (.cont 0 [(.v 12)])))))))))))))))
theorem atlaslaw26_CostFits_c : compile envIrCoj 3000 4 = .ok atlaslaw26_CostFits_ir := by kernel_rfl
theorem atlaslaw26_CostFits_p : paramShape Tryz.prog 4 = some [(true, 3), (false, 1), (false, 1)] := by kernel_rfl
theorem atlaslaw26_CostFits_k : Known gAll 4 (.ir [(true, 3), (false, 1), (false, 1)] atlaslaw26_CostFits_ir) := known_ir (E := envIrCoj) (n := 3000) rfl rfl atlaslaw26_CostFits_c atlaslaw26_CostFits_p
/-- atlas/atlaslaw26.CostTold -/
def atlaslaw26_CostTold_ir : IR :=
  (.jn (.ite (.v 17)
  (.call 7 [] [(false, 1)]
  (.ret [(false, [(.v 18)])]))
  (.call 10 [(true, (vr 0 4)), (false, [(.v 4)])] [(true, 13)]
  (.call 11 [(true, (vr 18 13)), (true, (vr 5 12))] [(true, 3)]
  (.call 15 [(true, (vr 18 13)), (true, (vr 5 12))] [(true, 13), (true, 6)]
  (.lt (.ite (.eqt false (.v 31) (.c (.i .i64 0))) (.ite (.eqt false (.v 32) (.c (.i .i64 0))) (.ite (.eqt true (.v 33) (.c (.b false))) (.c (.b true)) (.c (.b false))) (.c (.b false))) (.c (.b false))) (.jn (.ite (.v 54)
  (.ret [(false, [(.c (.b false))])])
  (.jn (.ite (.v 55)
  (.ret [(false, [(.c (.b false))])])
  (.jn (.ite (.v 56)
  (.ret [(false, [(.c (.b false))])])
  (.jn (.ite (.v 57)
  (.ret [(false, [(.c (.b true))])])
  (.call 11 [(true, (vr 18 13)), (true, ([(.c (.i .i64 4))] ++ vr 6 11))] [(true, 3)]
  (.jn (.ret [(false, [(.v 61)])])
  (.lt (.bin .eql (.v 59) (.c (.i .i64 1))) (.ite (.v 61)
  (.cont 0 [(.c (.b true))])
  (.lt (.bin .eql (.v 32) (.c (.i .i64 0))) (.ite (.v 62)
  (.lt (.bin .leq (.v 31) (.v 58)) (.cont 0 [(.v 63)]))
  (.cont 0 [(.c (.b false))]))))))))
  (.lt (.bin .neq (.v 5) (.c (.i .i64 5))) (.ite (.v 57)
  (.cont 0 [(.c (.b true))])
  (.lt (.bin .neq (.v 47) (.c (.i .i64 0))) (.cont 0 [(.v 58)]))))))
  (.lt (.bin .eql (.v 5) (.c (.i .i64 4))) (.ite (.v 56)
  (.lt (.bin .eql (.v 47) (.c (.i .i64 0))) (.ite (.v 57)
  (.cont 0 [(.v 53)])
  (.cont 0 [(.c (.b false))])))
  (.cont 0 [(.c (.b false))])))))
  (.lt (.bin .neq (.v 5) (.c (.i .i64 4))) (.ite (.v 55)
  (.lt (.bin .neq (.v 5) (.c (.i .i64 5))) (.ite (.v 56)
  (.lt (.un .not (.v 53)) (.cont 0 [(.v 57)]))
  (.lt (.bin .neq (.v 47) (.c (.i .i64 0))) (.ite (.v 57)
  (.lt (.un .not (.v 53)) (.cont 0 [(.v 58)]))
  (.cont 0 [(.c (.b false))])))))
  (.lt (.bin .neq (.v 47) (.c (.i .i64 0))) (.ite (.v 56)
  (.lt (.un .not (.v 53)) (.cont 0 [(.v 57)]))
  (.cont 0 [(.c (.b false))])))))))
  (.lt (.bin .lss (.v 31) (.c (.i .i64 0))) (.ite (.v 54)
  (.cont 0 [(.c (.b true))])
  (.lt (.bin .gtr (.v 31) (.c (.i .i64 16))) (.ite (.v 55)
  (.cont 0 [(.c (.b true))])
  (.lt (.bin .lss (.v 32) (.c (.i .i64 0))) (.ite (.v 56)
  (.cont 0 [(.c (.b true))])
  (.lt (.bin .gtr (.v 32) (.c (.i .i64 1))) (.ite (.v 57)
  (.cont 0 [(.c (.b true))])
  (.lt (.bin .eql (.v 32) (.c (.i .i64 1))) (.ite (.v 58)
  (.lt (.bin .gtr (.v 31) (.c (.i .i64 0))) (.ite (.v 59)
  (.cont 0 [(.c (.b true))])
  (.ite (.v 33)
  (.lt (.bin .neq (.v 6) (.c (.i .i64 (-1)))) (.ite (.v 60)
  (.cont 0 [(.c (.b true))])
  (.ite (.v 33)
  (.lt (.bin .add (.v 31) (.v 32)) (.lt (.bin .eql (.v 61) (.c (.i .i64 0))) (.cont 0 [(.v 62)])))
  (.cont 0 [(.c (.b false))]))))
  (.ite (.v 33)
  (.lt (.bin .add (.v 31) (.v 32)) (.lt (.bin .eql (.v 60) (.c (.i .i64 0))) (.cont 0 [(.v 61)])))
  (.cont 0 [(.c (.b false))])))))
  (.ite (.v 33)
  (.lt (.bin .neq (.v 6) (.c (.i .i64 (-1)))) (.ite (.v 59)
  (.cont 0 [(.c (.b true))])
  (.ite (.v 33)
  (.lt (.bin .add (.v 31) (.v 32)) (.lt (.bin .eql (.v 60) (.c (.i .i64 0))) (.cont 0 [(.v 61)])))
  (.cont 0 [(.c (.b false))]))))
  (.ite (.v 33)
  (.lt (.bin .add (.v 31) (.v 32)) (.lt (.bin .eql (.v 59) (.c (.i .i64 0))) (.cont 0 [(.v 60)])))
  (.cont 0 [(.c (.b false))])))))))))))))))))))
  (.call 7 [] [(false, 1)]
  (.lt (.un .not (.v 17)) (.ite (.v 18)
  (.cont 0 [(.c (.b true))])
  (.call 8 [(true, (vr 0 4))] [(false, 1)]
  (.lt (.un .not (.v 19)) (.ite (.v 20)
  (.cont 0 [(.c (.b true))])
  (.call 9 [(false, [(.v 4)])] [(false, 1)]
  (.lt (.un .not (.v 21)) (.cont 0 [(.v 22)]))))))))))
theorem atlaslaw26_CostTold_c : compile envIrCoj 3000 5 = .ok atlaslaw26_CostTold_ir := by kernel_rfl
theorem atlaslaw26_CostTold_p : paramShape Tryz.prog 5 = some [(true, 4), (false, 1), (true, 12)] := by kernel_rfl
theorem atlaslaw26_CostTold_k : Known gAll 5 (.ir [(true, 4), (false, 1), (true, 12)] atlaslaw26_CostTold_ir) := known_ir (E := envIrCoj) (n := 3000) rfl rfl atlaslaw26_CostTold_c atlaslaw26_CostTold_p
/-- atlas/atlaslaw26.CostSame -/
def atlaslaw26_CostSame_ir : IR :=
  (.jn (.ite (.v 29)
  (.call 7 [] [(false, 1)]
  (.ret [(false, [(.v 30)])]))
  (.call 10 [(true, (vr 0 4)), (false, [(.v 4)])] [(true, 13)]
  (.call 15 [(true, (vr 30 13)), (true, (vr 5 12))] [(true, 13), (true, 6)]
  (.call 15 [(true, (vr 30 13)), (true, (vr 17 12))] [(true, 13), (true, 6)]
  (.call 15 [(true, (vr 43 13)), (true, (vr 17 12))] [(true, 13), (true, 6)]
  (.jn (.ite (.v 100)
  (.ret [(false, [(.c (.b true))])])
  (.call 11 [(true, (vr 30 13)), (true, (vr 17 12))] [(true, 3)]
  (.call 11 [(true, (vr 43 13)), (true, (vr 17 12))] [(true, 3)]
  (.lt (.ite (.eqt false (.v 101) (.v 104)) (.ite (.eqt false (.v 102) (.v 105)) (.ite (.eqt true (.v 103) (.v 106)) (.c (.b true)) (.c (.b false))) (.c (.b false))) (.c (.b false))) (.ret [(false, [(.v 107)])])))))
  (.lt (.bin .neq (.v 56) (.c (.i .i64 0))) (.ite (.v 100)
  (.cont 0 [(.c (.b true))])
  (.lt (.bin .neq (.v 75) (.c (.i .i64 0))) (.ite (.v 101)
  (.cont 0 [(.c (.b true))])
  (.lt (.bin .neq (.v 94) (.c (.i .i64 0))) (.cont 0 [(.v 102)]))))))))))))
  (.call 7 [] [(false, 1)]
  (.lt (.un .not (.v 29)) (.ite (.v 30)
  (.cont 0 [(.c (.b true))])
  (.call 8 [(true, (vr 0 4))] [(false, 1)]
  (.lt (.un .not (.v 31)) (.ite (.v 32)
  (.cont 0 [(.c (.b true))])
  (.call 9 [(false, [(.v 4)])] [(false, 1)]
  (.lt (.un .not (.v 33)) (.ite (.v 34)
  (.cont 0 [(.c (.b true))])
  (.lt (.bin .lss (.v 5) (.c (.i .i64 3))) (.ite (.v 35)
  (.cont 0 [(.c (.b true))])
  (.lt (.bin .gtr (.v 5) (.c (.i .i64 5))) (.ite (.v 36)
  (.cont 0 [(.c (.b true))])
  (.lt (.bin .neq (.v 17) (.c (.i .i64 4))) (.ite (.v 37)
  (.lt (.bin .neq (.v 17) (.c (.i .i64 5))) (.ite (.v 38)
  (.cont 0 [(.c (.b true))])
  (.lt (.bin .eql (.v 6) (.v 18)) (.cont 0 [(.v 39)]))))
  (.lt (.bin .eql (.v 6) (.v 18)) (.cont 0 [(.v 38)]))))))))))))))))))
theorem atlaslaw26_CostSame_c : compile envIrCoj 3000 6 = .ok atlaslaw26_CostSame_ir := by kernel_rfl
theorem atlaslaw26_CostSame_p : paramShape Tryz.prog 6 = some [(true, 4), (false, 1), (true, 12), (true, 12)] := by kernel_rfl
theorem atlaslaw26_CostSame_k : Known gAll 6 (.ir [(true, 4), (false, 1), (true, 12), (true, 12)] atlaslaw26_CostSame_ir) := known_ir (E := envIrCoj) (n := 3000) rfl rfl atlaslaw26_CostSame_c atlaslaw26_CostSame_p
/-- atlas/atlaslaw26.awake -/
def atlaslaw26_awake_ir : IR :=
  (.call 10 [(true, [(.c (.i .i64 4)), (.c (.i .i64 8)), (.c (.i .i64 2)), (.c (.i .i64 0))]), (false, [(.cat (.one [(.c (.i .i64 0)), (.c (.i .i64 0)), (.c (.i .u64 0)), (.c (.i .u64 0)), (.c (.i .i64 0)), (.c (.b false)), (.c (.b false)), (.c (.b false)), (.c (.b false)), (.c (.i .i64 0)), (.c (.i .i64 0)), (.c (.i .u64 0))]) (.one [(.c (.i .i64 3)), (.c (.i .i64 0)), (.c (.i .u64 20480)), (.c (.i .u64 0)), (.c (.i .i64 0)), (.c (.b true)), (.c (.b true)), (.c (.b false)), (.c (.b false)), (.c (.i .i64 0)), (.c (.i .i64 0)), (.c (.i .u64 0))]))])] [(true, 13)]
  (.call 11 [(true, (vr 0 13)), (true, [(.c (.i .i64 4)), (.c (.i .i64 0)), (.c (.i .u64 20480)), (.c (.i .u64 0)), (.c (.i .i64 0)), (.c (.b false)), (.c (.b false)), (.c (.b false)), (.c (.b false)), (.c (.i .i64 0)), (.c (.i .i64 0)), (.c (.i .u64 0))])] [(true, 3)]
  (.lt (.ite (.eqt false (.v 13) (.c (.i .i64 1))) (.ite (.eqt false (.v 14) (.c (.i .i64 0))) (.ite (.eqt true (.v 15) (.c (.b false))) (.c (.b true)) (.c (.b false))) (.c (.b false))) (.c (.b false))) (.ite (.v 16)
  (.call 11 [(true, (vr 0 13)), (true, [(.c (.i .i64 5)), (.c (.i .i64 0)), (.c (.i .u64 20480)), (.c (.i .u64 0)), (.c (.i .i64 0)), (.c (.b true)), (.c (.b false)), (.c (.b false)), (.c (.b false)), (.c (.i .i64 0)), (.c (.i .i64 0)), (.c (.i .u64 0))])] [(true, 3)]
  (.lt (.ite (.eqt false (.v 17) (.c (.i .i64 1))) (.ite (.eqt false (.v 18) (.c (.i .i64 0))) (.ite (.eqt true (.v 19) (.c (.b false))) (.c (.b true)) (.c (.b false))) (.c (.b false))) (.c (.b false))) (.ite (.v 20)
  (.call 11 [(true, (vr 0 13)), (true, [(.c (.i .i64 5)), (.c (.i .i64 0)), (.c (.i .u64 20480)), (.c (.i .u64 0)), (.c (.i .i64 0)), (.c (.b true)), (.c (.b true)), (.c (.b false)), (.c (.b false)), (.c (.i .i64 0)), (.c (.i .i64 0)), (.c (.i .u64 0))])] [(true, 3)]
  (.lt (.ite (.eqt false (.v 21) (.c (.i .i64 0))) (.ite (.eqt false (.v 22) (.c (.i .i64 0))) (.ite (.eqt true (.v 23) (.c (.b false))) (.c (.b true)) (.c (.b false))) (.c (.b false))) (.c (.b false))) (.ite (.v 24)
  (.call 11 [(true, (vr 0 13)), (true, [(.c (.i .i64 3)), (.c (.i .i64 0)), (.c (.i .u64 20480)), (.c (.i .u64 0)), (.c (.i .i64 0)), (.c (.b true)), (.c (.b true)), (.c (.b false)), (.c (.b false)), (.c (.i .i64 0)), (.c (.i .i64 0)), (.c (.i .u64 0))])] [(true, 3)]
  (.lt (.ite (.eqt false (.v 25) (.c (.i .i64 0))) (.ite (.eqt false (.v 26) (.c (.i .i64 0))) (.ite (.eqt true (.v 27) (.c (.b false))) (.c (.b true)) (.c (.b false))) (.c (.b false))) (.c (.b false))) (.ite (.v 28)
  (.call 13 [(true, [(.c (.i .i64 1)), (.c (.i .i64 0)), (.c (.b false))]), (false, [(.one [(.c (.b true)), (.c (.i .u64 7)), (.c (.b true)), (.c (.i .u64 3))])]), (false, [(.c (.i .u64 3))])] [(false, 1)]
  (.chk (.eqt true (.v 29) (.v 29)) (.ite (.v 29)
  (.call 13 [(true, [(.c (.i .i64 1)), (.c (.i .i64 0)), (.c (.b false))]), (false, [(.one [(.c (.b true)), (.c (.i .u64 7)), (.c (.b true)), (.c (.i .u64 3))])]), (false, [(.c (.i .u64 4))])] [(false, 1)]
  (.chk (.eqt true (.v 30) (.v 30)) (.lt (.un .not (.v 30)) (.ite (.v 31)
  (.call 13 [(true, [(.c (.i .i64 0)), (.c (.i .i64 0)), (.c (.b false))]), (false, [(.one [(.c (.b true)), (.c (.i .u64 7)), (.c (.b true)), (.c (.i .u64 3))])]), (false, [(.c (.i .u64 3))])] [(false, 1)]
  (.chk (.eqt true (.v 32) (.v 32)) (.lt (.un .not (.v 32)) (.ite (.v 33)
  (.call 13 [(true, [(.c (.i .i64 0)), (.c (.i .i64 1)), (.c (.b true))]), (false, [(.one [(.c (.b false)), (.c (.i .u64 0)), (.c (.b false)), (.c (.i .u64 0))])]), (false, [(.c (.i .u64 3))])] [(false, 1)]
  (.chk (.eqt true (.v 34) (.v 34)) (.ite (.v 34)
  (.call 13 [(true, [(.c (.i .i64 0)), (.c (.i .i64 1)), (.c (.b false))]), (false, [(.one [(.c (.b false)), (.c (.i .u64 0)), (.c (.b false)), (.c (.i .u64 0))])]), (false, [(.c (.i .u64 3))])] [(false, 1)]
  (.chk (.eqt true (.v 35) (.v 35)) (.lt (.un .not (.v 35)) (.ret [(false, [(.v 36)])]))))
  (.ret [(false, [(.c (.b false))])]))))
  (.ret [(false, [(.c (.b false))])])))))
  (.ret [(false, [(.c (.b false))])])))))
  (.ret [(false, [(.c (.b false))])]))))
  (.ret [(false, [(.c (.b false))])]))))
  (.ret [(false, [(.c (.b false))])]))))
  (.ret [(false, [(.c (.b false))])]))))
  (.ret [(false, [(.c (.b false))])])))))
theorem atlaslaw26_awake_c : compile envIrCoj 3000 7 = .ok atlaslaw26_awake_ir := by kernel_rfl
theorem atlaslaw26_awake_p : paramShape Tryz.prog 7 = some [] := by kernel_rfl
theorem atlaslaw26_awake_k : Known gAll 7 (.ir [] atlaslaw26_awake_ir) := known_ir (E := envIrCoj) (n := 3000) rfl rfl atlaslaw26_awake_c atlaslaw26_awake_p
def TIrCo : Tbl :=
  (10, .ir [(true, 4), (false, 1)] atlaslaw26_after_ir) ::
  (11, .ir [(true, 13), (true, 12)] cost_Of_ir) ::
  (12, .ir [(true, 13), (true, 12)] atlasref26_Of_ir) ::
  (13, .ir [(true, 3), (false, 1), (false, 1)] cost_Fits_ir) ::
  (14, .ir [(true, 3), (false, 1), (false, 1)] atlasref26_Fits_ir) ::
  (18, .ir [(false, 1), (true, 12)] cost_lesser_ir) ::
  (19, .ir [(true, 13), (true, 12)] cost_pages_ir) ::
  (20, .ir [(true, 13), (true, 12)] cost_cut_ir) ::
  (3, .ir [(true, 4), (false, 1), (true, 12)] atlaslaw26_CostBills_ir) ::
  (4, .ir [(true, 3), (false, 1), (false, 1)] atlaslaw26_CostFits_ir) ::
  (5, .ir [(true, 4), (false, 1), (true, 12)] atlaslaw26_CostTold_ir) ::
  (6, .ir [(true, 4), (false, 1), (true, 12), (true, 12)] atlaslaw26_CostSame_ir) ::
  (7, .ir [] atlaslaw26_awake_ir) ::
  []
theorem TIrCo_ok : ∀ x ∈ TIrCo, Known gAll x.1 x.2 :=
  kcons atlaslaw26_after_k <|
  kcons cost_Of_k <|
  kcons atlasref26_Of_k <|
  kcons cost_Fits_k <|
  kcons atlasref26_Fits_k <|
  kcons cost_lesser_k <|
  kcons cost_pages_k <|
  kcons cost_cut_k <|
  kcons atlaslaw26_CostBills_k <|
  kcons atlaslaw26_CostFits_k <|
  kcons atlaslaw26_CostTold_k <|
  kcons atlaslaw26_CostSame_k <|
  kcons atlaslaw26_awake_k <|
  fun _ h => nomatch h
end Go.Proofs.YtlihbielphcgbaaGreatDoor.Sx
