/-
  IRs of functions, printed by a program of mine (wip/tools/mkir.py, ev.run.lean); each is checked by the kernel against the executor.
-/
import Derived.Test.YtlihbielphcgbaaGreatDoorBf
import Derived.Test.YtlihbielphcgbaaGreatDoorProg
namespace Go.Proofs.YtlihbielphcgbaaGreatDoor.Sx
open Go
set_option maxRecDepth 100000
def inlenvIrFl : List FuncId :=
  67 ::
  61 ::
  57 ::
  65 ::
  72 ::
  106 ::
  83 ::
  70 ::
  105 ::
  59 ::
  60 ::
  63 ::
  101 ::
  71 ::
  110 ::
  124 ::
  107 ::
  73 ::
  74 ::
  76 ::
  []
def unrenvIrFl : List FuncId :=
  59 ::
  60 ::
  []
def eatenvIrFl : List FuncId :=
  125 ::
  75 ::
  104 ::
  96 ::
  97 ::
  []
def lndenvIrFl : List FuncId :=
  108 ::
  []
def srtenvIrFl : List FuncId :=
  98 ::
  []
def useenvIrFl : List FuncId :=
  62 ::
  []
def nwenvIrFl : List (FuncId × Nat) :=
  (108, 0) ::
  (66, 0) ::
  []
def thwenvIrFl : List (FuncId × Nat) :=
  (73, 5) ::
  []
noncomputable def envIrFl : Env := { P := Tryz.prog, G := gAll, inl := inlenvIrFl, unr := unrenvIrFl, ded := true, eat := eatenvIrFl, lnd := lndenvIrFl, srt := srtenvIrFl, use := useenvIrFl, nw := nwenvIrFl, thw := thwenvIrFl }
/-- atlas/flat.Tables -/
def flat_Tables_ir : IR :=
  (.call 95 [(false, [(.v 8)]), (false, [(.c (.i .i64 1))])] [(false, 1)]
  (.lt (.bin .add (.c (.i .i64 1)) (.v 13)) (.lt (.len (.v 6)) (.loop [(.v 14), (.c (.i .i64 0))]
  (.lt (.bin .lss (.v 17) (.v 15)) (.ite (.v 18)
  (.chk (.inb (.v 6) (.v 17) 1) (.chk (.inb (.v 7) (.v 17) 1) (.ite (.idx (.v 7) (.v 17) 0)
  (.call 95 [(false, [(.idx (.v 6) (.v 17) 0)]), (false, [(.c (.i .i64 2))])] [(false, 1)]
  (.lt (.bin .add (.c (.i .i64 1)) (.v 19)) (.lt (.bin .add (.v 16) (.v 20)) (.lt (.bin .add (.v 17) (.c (.i .i64 1))) (.cont 0 [(.v 21), (.v 22)])))))
  (.lt (.bin .add (.v 17) (.c (.i .i64 1))) (.cont 0 [(.v 16), (.v 19)])))))
  (.ret [(false, [(.v 16)])])))))))
theorem flat_Tables_c : compile envIrFl 3000 58 = .ok flat_Tables_ir := by kernel_rfl
theorem flat_Tables_p : paramShape Tryz.prog 58 = some [(true, 13)] := by kernel_rfl
theorem flat_Tables_k : Known gAll 58 (.ir [(true, 13)] flat_Tables_ir) := known_ir (E := envIrFl) (n := 3000) rfl rfl flat_Tables_c flat_Tables_p
/-- atlas/flat.create -/
def flat_create_ir : IR :=
  (.lt (.len (.v 7)) (.loop [(.c (.i .i64 0)), (.c (.i .i64 0))]
  (.lt (.bin .lss (.v 27) (.v 25)) (.ite (.v 28)
  (.chk (.inb (.v 7) (.v 27) 1) (.call 56 [(false, [(.idx (.v 7) (.v 27) 0)])] [(false, 1)]
  (.lt (.cv .i64 (.v 29)) (.lt (.bin .add (.v 26) (.v 30)) (.lt (.bin .add (.v 27) (.c (.i .i64 1))) (.cont 0 [(.v 31), (.v 32)]))))))
  (.lt (.len (.v 7)) (.lt (.bin .geq (.v 29) (.c (.i .i64 32))) (.ite (.v 30)
  (.ret [(true, (vr 0 13)), (true, [(.c (.i .i64 1)), (.c (.i .i64 0)), (.c (.i .u64 0)), (.c (.b false)), (.c (.i .i64 0)), (.c (.i .u64 0))])])
  (.lt (.bin .geq (.v 26) (.v 2)) (.ite (.v 31)
  (.ret [(true, (vr 0 13)), (true, [(.c (.i .i64 9)), (.c (.i .i64 0)), (.c (.i .u64 0)), (.c (.b false)), (.c (.i .i64 0)), (.c (.i .u64 0))])])
  (.call 58 [(true, (vr 0 13))] [(false, 1)]
  (.lt (.bin .geq (.v 32) (.v 1)) (.ite (.v 33)
  (.ret [(true, (vr 0 13)), (true, [(.c (.i .i64 8)), (.c (.i .i64 0)), (.c (.i .u64 0)), (.c (.b false)), (.c (.i .i64 0)), (.c (.i .u64 0))])])
  (.lt (.len (.v 7)) (.lt (.len (.v 7)) (.lt (.bin .add (.c (.i .i64 0)) (.v 35)) (.lt (.bin .lss (.v 36) (.c (.i .i64 0))) (.ite (.v 37)
  (.chk (.c (.b false)) (.ret []))
  (.lt (.bin .add (.v 36) (.c (.i .i64 1))) (.lt (.bin .lss (.v 38) (.c (.i .i64 0))) (.ite (.v 39)
  (.chk (.c (.b false)) (.ret []))
  (.chk (.eqt false (.v 38) (.v 38)) (.call (eatOff + 96) [(false, [(.c (.sl 0 []))]), (false, [(.v 38)])] [(false, 1)]
  (.chk (.room (.len (.app 1 (.v 40) (.v 7))) 2) (.chk (.room (.len (.app 1 (.app 1 (.v 40) (.v 7)) (.one [(.c (.b true))]))) 2) (.lt (.len (.v 6)) (.lt (.bin .add (.c (.i .i64 0)) (.v 41)) (.lt (.bin .lss (.v 42) (.c (.i .i64 0))) (.ite (.v 43)
  (.chk (.c (.b false)) (.ret []))
  (.lt (.bin .add (.v 42) (.c (.i .i64 1))) (.lt (.bin .lss (.v 44) (.c (.i .i64 0))) (.ite (.v 45)
  (.chk (.c (.b false)) (.ret []))
  (.chk (.eqt false (.v 44) (.v 44)) (.call (eatOff + 97) [(false, [(.c (.sl 0 []))]), (false, [(.v 44)])] [(false, 1)]
  (.chk (.room (.len (.app 1 (.v 46) (.v 6))) 25) (.chk (.room (.len (.app 1 (.app 1 (.v 46) (.v 6)) (.one [(.c (.sl 0 []))]))) 25) (.ret [(true, (vr 0 6 ++ [(.app 1 (.app 1 (.v 46) (.v 6)) (.one [(.c (.sl 0 []))])), (.app 1 (.app 1 (.v 40) (.v 7)) (.one [(.c (.b true))]))] ++ vr 8 5)), (true, [(.c (.i .i64 0)), (.v 34), (.c (.i .u64 0)), (.c (.b false)), (.c (.i .i64 0)), (.c (.i .u64 0))])]))))))))))))))))))))))))))))))))))))
theorem flat_create_c : compile envIrFl 3000 31 = .ok flat_create_ir := by kernel_rfl
theorem flat_create_p : paramShape Tryz.prog 31 = some [(true, 13), (true, 12)] := by kernel_rfl
theorem flat_create_k : Known gAll 31 (.ir [(true, 13), (true, 12)] flat_create_ir) := known_ir (E := envIrFl) (n := 3000) rfl rfl flat_create_c flat_create_p
/-- atlas/flat.destroy -/
def flat_destroy_ir : IR :=
  (.lt (.bin .geq (.v 14) (.c (.i .i64 0))) (.ite (.v 25)
  (.lt (.len (.v 7)) (.lt (.bin .lss (.v 14) (.v 26)) (.ite (.v 27)
  (.chk (.inb (.v 7) (.v 14) 1) (.lt (.un .not (.idx (.v 7) (.v 14) 0)) (.ite (.v 28)
  (.ret [(true, (vr 0 13)), (true, [(.c (.i .i64 4)), (.c (.i .i64 0)), (.c (.i .u64 0)), (.c (.b false)), (.c (.i .i64 0)), (.c (.i .u64 0))])])
  (.lt (.bin .eql (.v 14) (.v 9)) (.ite (.v 29)
  (.ret [(true, (vr 0 13)), (true, [(.c (.i .i64 10)), (.c (.i .i64 0)), (.c (.i .u64 0)), (.c (.b false)), (.c (.i .i64 0)), (.c (.i .u64 0))])])
  (.call 62 [(true, (vr 0 13)), (false, [(.v 14)]), (false, [(.c (.sl 0 []))])] [(true, 13)]
  (.may (.bin .eql (.len (.v 37)) (.c (.i .i64 0)))
  (.chk (.inb (.c (.sl 0 [])) (.v 14) 1) (.chk (.c (.b false)) (.ret [])))
  (.chk (.room (.len (.app 1 (.c (.sl 1 [])) (.v 37))) 2) (.chk (.inb (.app 1 (.c (.sl 1 [])) (.v 37)) (.v 14) 1) (.chk (.inb (.app 1 (.c (.sl 1 [])) (.v 37)) (.v 14) 1) (.ret [(true, (vr 30 7 ++ [(.put (.app 1 (.c (.sl 1 [])) (.v 37)) (.v 14) 0 [(.c (.b false))])] ++ vr 38 5)), (true, [(.c (.i .i64 0)), (.c (.i .i64 0)), (.c (.i .u64 0)), (.c (.b false)), (.c (.i .i64 0)), (.c (.i .u64 0))])])))))))))))
  (.ret [(true, (vr 0 13)), (true, [(.c (.i .i64 4)), (.c (.i .i64 0)), (.c (.i .u64 0)), (.c (.b false)), (.c (.i .i64 0)), (.c (.i .u64 0))])]))))
  (.ret [(true, (vr 0 13)), (true, [(.c (.i .i64 4)), (.c (.i .i64 0)), (.c (.i .u64 0)), (.c (.b false)), (.c (.i .i64 0)), (.c (.i .u64 0))])])))
theorem flat_destroy_c : compile envIrFl 3000 32 = .ok flat_destroy_ir := by kernel_rfl
theorem flat_destroy_p : paramShape Tryz.prog 32 = some [(true, 13), (true, 12)] := by kernel_rfl
theorem flat_destroy_k : Known gAll 32 (.ir [(true, 13), (true, 12)] flat_destroy_ir) := known_ir (E := envIrFl) (n := 3000) rfl rfl flat_destroy_c flat_destroy_p
/-- atlas/flat.change -/
def flat_change_ir : IR :=
  (.lt (.bin .neq (.v 14) (.c (.i .i64 (-1)))) (.ite (.v 25)
  (.lt (.bin .geq (.v 14) (.c (.i .i64 0))) (.ite (.v 26)
  (.lt (.len (.v 7)) (.lt (.bin .lss (.v 14) (.v 27)) (.ite (.v 28)
  (.chk (.inb (.v 7) (.v 14) 1) (.lt (.un .not (.idx (.v 7) (.v 14) 0)) (.ite (.v 29)
  (.ret [(true, (vr 0 13)), (true, [(.c (.i .i64 4)), (.c (.i .i64 0)), (.c (.i .u64 0)), (.c (.b false)), (.c (.i .i64 0)), (.c (.i .u64 0))])])
  (.ret [(true, (vr 0 9 ++ [(.v 14), (.v 10), (.v 11), (.v 12)])), (true, [(.c (.i .i64 0)), (.c (.i .i64 0)), (.c (.i .u64 0)), (.c (.b false)), (.c (.i .i64 0)), (.c (.i .u64 0))])]))))
  (.ret [(true, (vr 0 13)), (true, [(.c (.i .i64 4)), (.c (.i .i64 0)), (.c (.i .u64 0)), (.c (.b false)), (.c (.i .i64 0)), (.c (.i .u64 0))])]))))
  (.ret [(true, (vr 0 13)), (true, [(.c (.i .i64 4)), (.c (.i .i64 0)), (.c (.i .u64 0)), (.c (.b false)), (.c (.i .i64 0)), (.c (.i .u64 0))])])))
  (.ret [(true, (vr 0 9 ++ [(.v 14), (.v 10), (.v 11), (.v 12)])), (true, [(.c (.i .i64 0)), (.c (.i .i64 0)), (.c (.i .u64 0)), (.c (.b false)), (.c (.i .i64 0)), (.c (.i .u64 0))])])))
theorem flat_change_c : compile envIrFl 3000 33 = .ok flat_change_ir := by kernel_rfl
theorem flat_change_p : paramShape Tryz.prog 33 = some [(true, 13), (true, 12)] := by kernel_rfl
theorem flat_change_k : Known gAll 33 (.ir [(true, 13), (true, 12)] flat_change_ir) := known_ir (E := envIrFl) (n := 3000) rfl rfl flat_change_c flat_change_p
/-- atlas/flat.lay -/
def flat_lay_ir : IR :=
  (.call 64 [(true, (vr 0 13)), (true, (vr 13 12))] [(false, 1)]
  (.lt (.bin .neq (.v 25) (.c (.i .i64 0))) (.ite (.v 26)
  (.ret [(true, (vr 0 13)), (true, [(.v 25), (.c (.i .i64 0)), (.c (.i .u64 0)), (.c (.b false)), (.c (.i .i64 0)), (.c (.i .u64 0))])])
  (.call 65 [(true, (vr 13 12))] [(true, 8)]
  (.call 40 [(false, [(.v 17)])] [(false, 1)]
  (.call 67 [(true, (vr 0 13)), (false, [(.v 14)])] [(false, 1)]
  (.lt (.one (vr 27 8)) (.lt (.cat (.one [(.v 36)]) (.one [(.v 37)])) (.call (nwOff + 66) [(false, [(.v 38)])] [(false, 1)]
  (.chk (.room (.len (.v 39)) 0) (.call (useOff + 62) [(true, (vr 0 13)), (false, [(.v 14)]), (false, [(.v 39)])] [(true, 13)]
  (.call 68 [(false, [(.v 16)]), (false, [(.v 35)])] [(false, 1)]
  (.lt (.un .not (.v 53)) (.ite (.v 54)
  (.ret [(true, (vr 0 13)), (true, [(.c (.i .i64 2)), (.c (.i .i64 0)), (.c (.i .u64 0)), (.c (.b false)), (.c (.i .i64 0)), (.c (.i .u64 0))])])
  (.lt (.bin .geq (.v 16) (.v 4)) (.ite (.v 55)
  (.ret [(true, (vr 0 13)), (true, [(.c (.i .i64 3)), (.c (.i .i64 0)), (.c (.i .u64 0)), (.c (.b false)), (.c (.i .i64 0)), (.c (.i .u64 0))])])
  (.lt (.bin .sub (.v 4) (.v 16)) (.lt (.bin .gtr (.v 35) (.v 56)) (.ite (.v 57)
  (.ret [(true, (vr 0 13)), (true, [(.c (.i .i64 3)), (.c (.i .i64 0)), (.c (.i .u64 0)), (.c (.b false)), (.c (.i .i64 0)), (.c (.i .u64 0))])])
  (.call 69 [(true, (vr 18 4))] [(false, 1)]
  (.lt (.un .not (.v 58)) (.ite (.v 59)
  (.ret [(true, (vr 0 13)), (true, [(.c (.i .i64 5)), (.c (.i .i64 0)), (.c (.i .u64 0)), (.c (.b false)), (.c (.i .i64 0)), (.c (.i .u64 0))])])
  (.lt (.bin .eql (.v 14) (.c (.i .i64 (-1)))) (.ite (.v 60)
  (.lt (.len (.v 8)) (.loop [(.c (.i .i64 0)), (.c (.i .i64 0))]
  (.lt (.bin .lss (.v 63) (.v 61)) (.ite (.v 64)
  (.chk (.inb (.v 8) (.v 63) 8) (.call 106 [(true, (vr 27 8))] [(false, 1)]
  (.lt (.bin .leq (.idx (.v 8) (.v 63) 0) (.v 65)) (.ite (.v 66)
  (.call 106 [(true, (idr (.v 8) (.v 63) 0 8))] [(false, 1)]
  (.lt (.bin .leq (.v 27) (.v 67)) (.ite (.v 68)
  (.lt (.bin .geq (.v 63) (.c (.i .i64 0))) (.ite (.v 69)
  (.ret [(true, (vr 0 13)), (true, [(.c (.i .i64 6)), (.c (.i .i64 0)), (.c (.i .u64 0)), (.c (.b false)), (.c (.i .i64 0)), (.c (.i .u64 0))])])
  (.call 58 [(true, (vr 40 13))] [(false, 1)]
  (.lt (.bin .gtr (.v 70) (.v 1)) (.ite (.v 71)
  (.ret [(true, (vr 0 13)), (true, [(.c (.i .i64 8)), (.c (.i .i64 0)), (.c (.i .u64 0)), (.c (.b false)), (.c (.i .i64 0)), (.c (.i .u64 0))])])
  (.ret [(true, (vr 40 13)), (true, [(.c (.i .i64 0)), (.c (.i .i64 0)), (.c (.i .u64 0)), (.c (.b false)), (.c (.i .i64 0)), (.c (.i .u64 0))])]))))))
  (.lt (.bin .add (.v 63) (.c (.i .i64 1))) (.cont 0 [(.v 62), (.v 69)])))))
  (.lt (.bin .add (.v 63) (.c (.i .i64 1))) (.cont 0 [(.v 62), (.v 67)]))))))
  (.call 58 [(true, (vr 40 13))] [(false, 1)]
  (.lt (.bin .gtr (.v 65) (.v 1)) (.ite (.v 66)
  (.ret [(true, (vr 0 13)), (true, [(.c (.i .i64 8)), (.c (.i .i64 0)), (.c (.i .u64 0)), (.c (.b false)), (.c (.i .i64 0)), (.c (.i .u64 0))])])
  (.ret [(true, (vr 40 13)), (true, [(.c (.i .i64 0)), (.c (.i .i64 0)), (.c (.i .u64 0)), (.c (.b false)), (.c (.i .i64 0)), (.c (.i .u64 0))])]))))))))
  (.chk (.inb (.v 6) (.v 14) 1) (.lt (.len (.idx (.v 6) (.v 14) 0)) (.loop [(.c (.i .i64 0)), (.c (.i .i64 0))]
  (.lt (.bin .lss (.v 63) (.v 61)) (.ite (.v 64)
  (.chk (.inb (.idx (.v 6) (.v 14) 0) (.v 63) 8) (.call 106 [(true, (vr 27 8))] [(false, 1)]
  (.lt (.bin .leq (.idx (.idx (.v 6) (.v 14) 0) (.v 63) 0) (.v 65)) (.ite (.v 66)
  (.call 106 [(true, [(.idx (.idx (.v 6) (.v 14) 0) (.v 63) 0), (.idx (.idx (.v 6) (.v 14) 0) (.v 63) 1), (.idx (.idx (.v 6) (.v 14) 0) (.v 63) 2), (.idx (.idx (.v 6) (.v 14) 0) (.v 63) 3), (.idx (.idx (.v 6) (.v 14) 0) (.v 63) 4), (.idx (.idx (.v 6) (.v 14) 0) (.v 63) 5), (.idx (.idx (.v 6) (.v 14) 0) (.v 63) 6), (.idx (.idx (.v 6) (.v 14) 0) (.v 63) 7)])] [(false, 1)]
  (.lt (.bin .leq (.v 27) (.v 67)) (.ite (.v 68)
  (.lt (.bin .geq (.v 63) (.c (.i .i64 0))) (.ite (.v 69)
  (.ret [(true, (vr 0 13)), (true, [(.c (.i .i64 6)), (.c (.i .i64 0)), (.c (.i .u64 0)), (.c (.b false)), (.c (.i .i64 0)), (.c (.i .u64 0))])])
  (.call 58 [(true, (vr 40 13))] [(false, 1)]
  (.lt (.bin .gtr (.v 70) (.v 1)) (.ite (.v 71)
  (.ret [(true, (vr 0 13)), (true, [(.c (.i .i64 8)), (.c (.i .i64 0)), (.c (.i .u64 0)), (.c (.b false)), (.c (.i .i64 0)), (.c (.i .u64 0))])])
  (.ret [(true, (vr 40 13)), (true, [(.c (.i .i64 0)), (.c (.i .i64 0)), (.c (.i .u64 0)), (.c (.b false)), (.c (.i .i64 0)), (.c (.i .u64 0))])]))))))
  (.lt (.bin .add (.v 63) (.c (.i .i64 1))) (.cont 0 [(.v 62), (.v 69)])))))
  (.lt (.bin .add (.v 63) (.c (.i .i64 1))) (.cont 0 [(.v 62), (.v 67)]))))))
  (.call 58 [(true, (vr 40 13))] [(false, 1)]
  (.lt (.bin .gtr (.v 65) (.v 1)) (.ite (.v 66)
  (.ret [(true, (vr 0 13)), (true, [(.c (.i .i64 8)), (.c (.i .i64 0)), (.c (.i .u64 0)), (.c (.b false)), (.c (.i .i64 0)), (.c (.i .u64 0))])])
  (.ret [(true, (vr 40 13)), (true, [(.c (.i .i64 0)), (.c (.i .i64 0)), (.c (.i .u64 0)), (.c (.b false)), (.c (.i .i64 0)), (.c (.i .u64 0))])])))))))))))))))))))))))))))))))))
theorem flat_lay_c : compile envIrFl 3000 34 = .ok flat_lay_ir := by kernel_rfl
theorem flat_lay_p : paramShape Tryz.prog 34 = some [(true, 13), (true, 12)] := by kernel_rfl
theorem flat_lay_k : Known gAll 34 (.ir [(true, 13), (true, 12)] flat_lay_ir) := known_ir (E := envIrFl) (n := 3000) rfl rfl flat_lay_c flat_lay_p
/-- atlas/flat.lift -/
def flat_lift_ir : IR :=
  (.call 64 [(true, (vr 0 13)), (true, (vr 13 12))] [(false, 1)]
  (.lt (.bin .neq (.v 25) (.c (.i .i64 0))) (.ite (.v 26)
  (.ret [(true, (vr 0 13)), (true, [(.v 25), (.c (.i .i64 0)), (.c (.i .u64 0)), (.c (.b false)), (.c (.i .i64 0)), (.c (.i .u64 0))])])
  (.lt (.bin .eql (.v 14) (.c (.i .i64 (-1)))) (.ite (.v 27)
  (.lt (.len (.v 8)) (.loop [(.c (.i .i64 0)), (.c (.i .i64 0))]
  (.lt (.bin .lss (.v 30) (.v 28)) (.ite (.v 31)
  (.chk (.inb (.v 8) (.v 30) 8) (.call 65 [(true, (vr 13 12))] [(true, 8)]
  (.call 106 [(true, (vr 32 8))] [(false, 1)]
  (.lt (.bin .leq (.idx (.v 8) (.v 30) 0) (.v 40)) (.ite (.v 41)
  (.call 106 [(true, (idr (.v 8) (.v 30) 0 8))] [(false, 1)]
  (.lt (.bin .leq (.v 32) (.v 42)) (.ite (.v 43)
  (.lt (.bin .geq (.v 30) (.c (.i .i64 0))) (.lt (.un .not (.v 44)) (.ite (.v 45)
  (.ret [(true, (vr 0 13)), (true, [(.c (.i .i64 7)), (.c (.i .i64 0)), (.c (.i .u64 0)), (.c (.b false)), (.c (.i .i64 0)), (.c (.i .u64 0))])])
  (.call 67 [(true, (vr 0 13)), (false, [(.v 14)])] [(false, 1)]
  (.call (nwOff + 108) [(false, [(.v 46)]), (false, [(.v 15)]), (false, [(.v 17)])] [(false, 1)]
  (.chk (.room (.len (.v 47)) 0) (.call 62 [(true, (vr 0 13)), (false, [(.v 14)]), (false, [(.v 47)])] [(true, 13)]
  (.call 58 [(true, (vr 48 13))] [(false, 1)]
  (.lt (.bin .gtr (.v 61) (.v 1)) (.chk (.eqt true (.v 62) (.v 62)) (.ite (.v 62)
  (.ret [(true, (vr 0 13)), (true, [(.c (.i .i64 8)), (.c (.i .i64 0)), (.c (.i .u64 0)), (.c (.b false)), (.c (.i .i64 0)), (.c (.i .u64 0))])])
  (.lt (.bin .sub (.len (.v 47)) (.c (.i .i64 1))) (.loop [(.v 63), (.v 47)]
  (.lt (.bin .geq (.v 64) (.c (.i .i64 0))) (.ite (.v 66)
  (.chk (.inb (.v 65) (.v 64) 8) (.chk (.inb (.v 65) (.v 64) 8) (.call 65 [(true, (vr 13 12))] [(true, 8)]
  (.call 106 [(true, (vr 67 8))] [(false, 1)]
  (.lt (.bin .leq (.idx (.v 65) (.v 64) 0) (.v 75)) (.ite (.v 76)
  (.call 106 [(true, (idr (.v 65) (.v 64) 0 8))] [(false, 1)]
  (.lt (.bin .leq (.v 67) (.v 77)) (.ite (.v 78)
  (.lt (.bin .add (.v 64) (.c (.i .i64 1))) (.chk (.eqt false (.v 64) (.v 64)) (.chk (.eqt false (.v 79) (.v 79)) (.call (eatOff + 75) [(false, [(.v 65)]), (false, [(.v 64)]), (false, [(.v 79)])] [(false, 1)]
  (.lt (.bin .sub (.v 64) (.c (.i .i64 1))) (.cont 1 [(.v 81), (.v 80)]))))))
  (.lt (.bin .sub (.v 64) (.c (.i .i64 1))) (.cont 1 [(.v 79), (.v 65)])))))
  (.lt (.bin .sub (.v 64) (.c (.i .i64 1))) (.cont 1 [(.v 77), (.v 65)]))))))))
  (.call 62 [(true, (vr 0 13)), (false, [(.v 14)]), (false, [(.v 65)])] [(true, 13)]
  (.ret [(true, (vr 67 13)), (true, [(.c (.i .i64 0)), (.c (.i .i64 0)), (.c (.i .u64 0)), (.c (.b false)), (.c (.i .i64 0)), (.c (.i .u64 0))])])))))))))))))))))
  (.lt (.bin .add (.v 30) (.c (.i .i64 1))) (.cont 0 [(.v 29), (.v 44)])))))
  (.lt (.bin .add (.v 30) (.c (.i .i64 1))) (.cont 0 [(.v 29), (.v 42)])))))))
  (.ret [(true, (vr 0 13)), (true, [(.c (.i .i64 7)), (.c (.i .i64 0)), (.c (.i .u64 0)), (.c (.b false)), (.c (.i .i64 0)), (.c (.i .u64 0))])])))))
  (.chk (.inb (.v 6) (.v 14) 1) (.lt (.len (.idx (.v 6) (.v 14) 0)) (.loop [(.c (.i .i64 0)), (.c (.i .i64 0))]
  (.lt (.bin .lss (.v 30) (.v 28)) (.ite (.v 31)
  (.chk (.inb (.idx (.v 6) (.v 14) 0) (.v 30) 8) (.call 65 [(true, (vr 13 12))] [(true, 8)]
  (.call 106 [(true, (vr 32 8))] [(false, 1)]
  (.lt (.bin .leq (.idx (.idx (.v 6) (.v 14) 0) (.v 30) 0) (.v 40)) (.ite (.v 41)
  (.call 106 [(true, [(.idx (.idx (.v 6) (.v 14) 0) (.v 30) 0), (.idx (.idx (.v 6) (.v 14) 0) (.v 30) 1), (.idx (.idx (.v 6) (.v 14) 0) (.v 30) 2), (.idx (.idx (.v 6) (.v 14) 0) (.v 30) 3), (.idx (.idx (.v 6) (.v 14) 0) (.v 30) 4), (.idx (.idx (.v 6) (.v 14) 0) (.v 30) 5), (.idx (.idx (.v 6) (.v 14) 0) (.v 30) 6), (.idx (.idx (.v 6) (.v 14) 0) (.v 30) 7)])] [(false, 1)]
  (.lt (.bin .leq (.v 32) (.v 42)) (.ite (.v 43)
  (.lt (.bin .geq (.v 30) (.c (.i .i64 0))) (.lt (.un .not (.v 44)) (.ite (.v 45)
  (.ret [(true, (vr 0 13)), (true, [(.c (.i .i64 7)), (.c (.i .i64 0)), (.c (.i .u64 0)), (.c (.b false)), (.c (.i .i64 0)), (.c (.i .u64 0))])])
  (.call 67 [(true, (vr 0 13)), (false, [(.v 14)])] [(false, 1)]
  (.call (nwOff + 108) [(false, [(.v 46)]), (false, [(.v 15)]), (false, [(.v 17)])] [(false, 1)]
  (.chk (.room (.len (.v 47)) 0) (.call 62 [(true, (vr 0 13)), (false, [(.v 14)]), (false, [(.v 47)])] [(true, 13)]
  (.call 58 [(true, (vr 48 13))] [(false, 1)]
  (.lt (.bin .gtr (.v 61) (.v 1)) (.chk (.eqt true (.v 62) (.v 62)) (.ite (.v 62)
  (.ret [(true, (vr 0 13)), (true, [(.c (.i .i64 8)), (.c (.i .i64 0)), (.c (.i .u64 0)), (.c (.b false)), (.c (.i .i64 0)), (.c (.i .u64 0))])])
  (.lt (.bin .sub (.len (.v 47)) (.c (.i .i64 1))) (.loop [(.v 63), (.v 47)]
  (.lt (.bin .geq (.v 64) (.c (.i .i64 0))) (.ite (.v 66)
  (.chk (.inb (.v 65) (.v 64) 8) (.chk (.inb (.v 65) (.v 64) 8) (.call 65 [(true, (vr 13 12))] [(true, 8)]
  (.call 106 [(true, (vr 67 8))] [(false, 1)]
  (.lt (.bin .leq (.idx (.v 65) (.v 64) 0) (.v 75)) (.ite (.v 76)
  (.call 106 [(true, (idr (.v 65) (.v 64) 0 8))] [(false, 1)]
  (.lt (.bin .leq (.v 67) (.v 77)) (.ite (.v 78)
  (.lt (.bin .add (.v 64) (.c (.i .i64 1))) (.chk (.eqt false (.v 64) (.v 64)) (.chk (.eqt false (.v 79) (.v 79)) (.call (eatOff + 75) [(false, [(.v 65)]), (false, [(.v 64)]), (false, [(.v 79)])] [(false, 1)]
  (.lt (.bin .sub (.v 64) (.c (.i .i64 1))) (.cont 1 [(.v 81), (.v 80)]))))))
  (.lt (.bin .sub (.v 64) (.c (.i .i64 1))) (.cont 1 [(.v 79), (.v 65)])))))
  (.lt (.bin .sub (.v 64) (.c (.i .i64 1))) (.cont 1 [(.v 77), (.v 65)]))))))))
  (.call 62 [(true, (vr 0 13)), (false, [(.v 14)]), (false, [(.v 65)])] [(true, 13)]
  (.ret [(true, (vr 67 13)), (true, [(.c (.i .i64 0)), (.c (.i .i64 0)), (.c (.i .u64 0)), (.c (.b false)), (.c (.i .i64 0)), (.c (.i .u64 0))])])))))))))))))))))
  (.lt (.bin .add (.v 30) (.c (.i .i64 1))) (.cont 0 [(.v 29), (.v 44)])))))
  (.lt (.bin .add (.v 30) (.c (.i .i64 1))) (.cont 0 [(.v 29), (.v 42)])))))))
  (.ret [(true, (vr 0 13)), (true, [(.c (.i .i64 7)), (.c (.i .i64 0)), (.c (.i .u64 0)), (.c (.b false)), (.c (.i .i64 0)), (.c (.i .u64 0))])])))))))))))
theorem flat_lift_c : compile envIrFl 3000 35 = .ok flat_lift_ir := by kernel_rfl
theorem flat_lift_p : paramShape Tryz.prog 35 = some [(true, 13), (true, 12)] := by kernel_rfl
theorem flat_lift_k : Known gAll 35 (.ir [(true, 13), (true, 12)] flat_lift_ir) := known_ir (E := envIrFl) (n := 3000) rfl rfl flat_lift_c flat_lift_p
/-- atlas/flat.guard -/
def flat_guard_ir : IR :=
  (.call 64 [(true, (vr 0 13)), (true, (vr 13 12))] [(false, 1)]
  (.lt (.bin .eql (.v 25) (.c (.i .i64 0))) (.ite (.v 26)
  (.call 69 [(true, (vr 18 4))] [(false, 1)]
  (.lt (.un .not (.v 27)) (.ite (.v 28)
  (.ret [(true, (vr 0 13)), (true, [(.c (.i .i64 5)), (.c (.i .i64 0)), (.c (.i .u64 0)), (.c (.b false)), (.c (.i .i64 0)), (.c (.i .u64 0))])])
  (.lt (.bin .neq (.v 25) (.c (.i .i64 0))) (.ite (.v 29)
  (.ret [(true, (vr 0 13)), (true, [(.v 25), (.c (.i .i64 0)), (.c (.i .u64 0)), (.c (.b false)), (.c (.i .i64 0)), (.c (.i .u64 0))])])
  (.lt (.bin .eql (.v 14) (.c (.i .i64 (-1)))) (.ite (.v 30)
  (.lt (.len (.v 8)) (.loop [(.c (.i .i64 0)), (.c (.i .i64 0))]
  (.lt (.bin .lss (.v 33) (.v 31)) (.ite (.v 34)
  (.chk (.inb (.v 8) (.v 33) 8) (.call 65 [(true, (vr 13 12))] [(true, 8)]
  (.call 106 [(true, (vr 35 8))] [(false, 1)]
  (.lt (.bin .leq (.idx (.v 8) (.v 33) 0) (.v 43)) (.ite (.v 44)
  (.call 106 [(true, (idr (.v 8) (.v 33) 0 8))] [(false, 1)]
  (.lt (.bin .leq (.v 35) (.v 45)) (.ite (.v 46)
  (.lt (.bin .geq (.v 33) (.c (.i .i64 0))) (.lt (.un .not (.v 47)) (.ite (.v 48)
  (.ret [(true, (vr 0 13)), (true, [(.c (.i .i64 7)), (.c (.i .i64 0)), (.c (.i .u64 0)), (.c (.b false)), (.c (.i .i64 0)), (.c (.i .u64 0))])])
  (.call 67 [(true, (vr 0 13)), (false, [(.v 14)])] [(false, 1)]
  (.call (nwOff + 108) [(false, [(.v 49)]), (false, [(.v 15)]), (false, [(.v 17)])] [(false, 1)]
  (.chk (.room (.len (.v 50)) 0) (.call 62 [(true, (vr 0 13)), (false, [(.v 14)]), (false, [(.v 50)])] [(true, 13)]
  (.call 58 [(true, (vr 51 13))] [(false, 1)]
  (.lt (.bin .gtr (.v 64) (.v 1)) (.chk (.eqt true (.v 65) (.v 65)) (.ite (.v 65)
  (.ret [(true, (vr 0 13)), (true, [(.c (.i .i64 8)), (.c (.i .i64 0)), (.c (.i .u64 0)), (.c (.b false)), (.c (.i .i64 0)), (.c (.i .u64 0))])])
  (.lt (.bin .sub (.len (.v 50)) (.c (.i .i64 1))) (.loop [(.v 66), (.v 50)]
  (.lt (.bin .geq (.v 67) (.c (.i .i64 0))) (.ite (.v 69)
  (.chk (.inb (.v 68) (.v 67) 8) (.chk (.inb (.v 68) (.v 67) 8) (.call 65 [(true, (vr 13 12))] [(true, 8)]
  (.call 106 [(true, (vr 70 8))] [(false, 1)]
  (.lt (.bin .leq (.idx (.v 68) (.v 67) 0) (.v 78)) (.ite (.v 79)
  (.call 106 [(true, (idr (.v 68) (.v 67) 0 8))] [(false, 1)]
  (.lt (.bin .leq (.v 70) (.v 80)) (.ite (.v 81)
  (.chk (.inb (.v 68) (.v 67) 8) (.chk (.inb (.v 68) (.v 67) 8) (.lt (.bin .sub (.v 67) (.c (.i .i64 1))) (.cont 1 [(.v 82), (.put (.v 68) (.v 67) 3 (vr 18 4))]))))
  (.lt (.bin .sub (.v 67) (.c (.i .i64 1))) (.cont 1 [(.v 82), (.v 68)])))))
  (.lt (.bin .sub (.v 67) (.c (.i .i64 1))) (.cont 1 [(.v 80), (.v 68)]))))))))
  (.call 62 [(true, (vr 0 13)), (false, [(.v 14)]), (false, [(.v 68)])] [(true, 13)]
  (.ret [(true, (vr 70 13)), (true, [(.c (.i .i64 0)), (.c (.i .i64 0)), (.c (.i .u64 0)), (.c (.b false)), (.c (.i .i64 0)), (.c (.i .u64 0))])])))))))))))))))))
  (.lt (.bin .add (.v 33) (.c (.i .i64 1))) (.cont 0 [(.v 32), (.v 47)])))))
  (.lt (.bin .add (.v 33) (.c (.i .i64 1))) (.cont 0 [(.v 32), (.v 45)])))))))
  (.ret [(true, (vr 0 13)), (true, [(.c (.i .i64 7)), (.c (.i .i64 0)), (.c (.i .u64 0)), (.c (.b false)), (.c (.i .i64 0)), (.c (.i .u64 0))])])))))
  (.chk (.inb (.v 6) (.v 14) 1) (.lt (.len (.idx (.v 6) (.v 14) 0)) (.loop [(.c (.i .i64 0)), (.c (.i .i64 0))]
  (.lt (.bin .lss (.v 33) (.v 31)) (.ite (.v 34)
  (.chk (.inb (.idx (.v 6) (.v 14) 0) (.v 33) 8) (.call 65 [(true, (vr 13 12))] [(true, 8)]
  (.call 106 [(true, (vr 35 8))] [(false, 1)]
  (.lt (.bin .leq (.idx (.idx (.v 6) (.v 14) 0) (.v 33) 0) (.v 43)) (.ite (.v 44)
  (.call 106 [(true, [(.idx (.idx (.v 6) (.v 14) 0) (.v 33) 0), (.idx (.idx (.v 6) (.v 14) 0) (.v 33) 1), (.idx (.idx (.v 6) (.v 14) 0) (.v 33) 2), (.idx (.idx (.v 6) (.v 14) 0) (.v 33) 3), (.idx (.idx (.v 6) (.v 14) 0) (.v 33) 4), (.idx (.idx (.v 6) (.v 14) 0) (.v 33) 5), (.idx (.idx (.v 6) (.v 14) 0) (.v 33) 6), (.idx (.idx (.v 6) (.v 14) 0) (.v 33) 7)])] [(false, 1)]
  (.lt (.bin .leq (.v 35) (.v 45)) (.ite (.v 46)
  (.lt (.bin .geq (.v 33) (.c (.i .i64 0))) (.lt (.un .not (.v 47)) (.ite (.v 48)
  (.ret [(true, (vr 0 13)), (true, [(.c (.i .i64 7)), (.c (.i .i64 0)), (.c (.i .u64 0)), (.c (.b false)), (.c (.i .i64 0)), (.c (.i .u64 0))])])
  (.call 67 [(true, (vr 0 13)), (false, [(.v 14)])] [(false, 1)]
  (.call (nwOff + 108) [(false, [(.v 49)]), (false, [(.v 15)]), (false, [(.v 17)])] [(false, 1)]
  (.chk (.room (.len (.v 50)) 0) (.call 62 [(true, (vr 0 13)), (false, [(.v 14)]), (false, [(.v 50)])] [(true, 13)]
  (.call 58 [(true, (vr 51 13))] [(false, 1)]
  (.lt (.bin .gtr (.v 64) (.v 1)) (.chk (.eqt true (.v 65) (.v 65)) (.ite (.v 65)
  (.ret [(true, (vr 0 13)), (true, [(.c (.i .i64 8)), (.c (.i .i64 0)), (.c (.i .u64 0)), (.c (.b false)), (.c (.i .i64 0)), (.c (.i .u64 0))])])
  (.lt (.bin .sub (.len (.v 50)) (.c (.i .i64 1))) (.loop [(.v 66), (.v 50)]
  (.lt (.bin .geq (.v 67) (.c (.i .i64 0))) (.ite (.v 69)
  (.chk (.inb (.v 68) (.v 67) 8) (.chk (.inb (.v 68) (.v 67) 8) (.call 65 [(true, (vr 13 12))] [(true, 8)]
  (.call 106 [(true, (vr 70 8))] [(false, 1)]
  (.lt (.bin .leq (.idx (.v 68) (.v 67) 0) (.v 78)) (.ite (.v 79)
  (.call 106 [(true, (idr (.v 68) (.v 67) 0 8))] [(false, 1)]
  (.lt (.bin .leq (.v 70) (.v 80)) (.ite (.v 81)
  (.chk (.inb (.v 68) (.v 67) 8) (.chk (.inb (.v 68) (.v 67) 8) (.lt (.bin .sub (.v 67) (.c (.i .i64 1))) (.cont 1 [(.v 82), (.put (.v 68) (.v 67) 3 (vr 18 4))]))))
  (.lt (.bin .sub (.v 67) (.c (.i .i64 1))) (.cont 1 [(.v 82), (.v 68)])))))
  (.lt (.bin .sub (.v 67) (.c (.i .i64 1))) (.cont 1 [(.v 80), (.v 68)]))))))))
  (.call 62 [(true, (vr 0 13)), (false, [(.v 14)]), (false, [(.v 68)])] [(true, 13)]
  (.ret [(true, (vr 70 13)), (true, [(.c (.i .i64 0)), (.c (.i .i64 0)), (.c (.i .u64 0)), (.c (.b false)), (.c (.i .i64 0)), (.c (.i .u64 0))])])))))))))))))))))
  (.lt (.bin .add (.v 33) (.c (.i .i64 1))) (.cont 0 [(.v 32), (.v 47)])))))
  (.lt (.bin .add (.v 33) (.c (.i .i64 1))) (.cont 0 [(.v 32), (.v 45)])))))))
  (.ret [(true, (vr 0 13)), (true, [(.c (.i .i64 7)), (.c (.i .i64 0)), (.c (.i .u64 0)), (.c (.b false)), (.c (.i .i64 0)), (.c (.i .u64 0))])])))))))))))))
  (.lt (.bin .neq (.v 25) (.c (.i .i64 0))) (.ite (.v 27)
  (.ret [(true, (vr 0 13)), (true, [(.v 25), (.c (.i .i64 0)), (.c (.i .u64 0)), (.c (.b false)), (.c (.i .i64 0)), (.c (.i .u64 0))])])
  (.lt (.bin .eql (.v 14) (.c (.i .i64 (-1)))) (.ite (.v 28)
  (.lt (.len (.v 8)) (.loop [(.c (.i .i64 0)), (.c (.i .i64 0))]
  (.lt (.bin .lss (.v 31) (.v 29)) (.ite (.v 32)
  (.chk (.inb (.v 8) (.v 31) 8) (.call 65 [(true, (vr 13 12))] [(true, 8)]
  (.call 106 [(true, (vr 33 8))] [(false, 1)]
  (.lt (.bin .leq (.idx (.v 8) (.v 31) 0) (.v 41)) (.ite (.v 42)
  (.call 106 [(true, (idr (.v 8) (.v 31) 0 8))] [(false, 1)]
  (.lt (.bin .leq (.v 33) (.v 43)) (.ite (.v 44)
  (.lt (.bin .geq (.v 31) (.c (.i .i64 0))) (.lt (.un .not (.v 45)) (.ite (.v 46)
  (.ret [(true, (vr 0 13)), (true, [(.c (.i .i64 7)), (.c (.i .i64 0)), (.c (.i .u64 0)), (.c (.b false)), (.c (.i .i64 0)), (.c (.i .u64 0))])])
  (.call 67 [(true, (vr 0 13)), (false, [(.v 14)])] [(false, 1)]
  (.call (nwOff + 108) [(false, [(.v 47)]), (false, [(.v 15)]), (false, [(.v 17)])] [(false, 1)]
  (.chk (.room (.len (.v 48)) 0) (.call 62 [(true, (vr 0 13)), (false, [(.v 14)]), (false, [(.v 48)])] [(true, 13)]
  (.call 58 [(true, (vr 49 13))] [(false, 1)]
  (.lt (.bin .gtr (.v 62) (.v 1)) (.chk (.eqt true (.v 63) (.v 63)) (.ite (.v 63)
  (.ret [(true, (vr 0 13)), (true, [(.c (.i .i64 8)), (.c (.i .i64 0)), (.c (.i .u64 0)), (.c (.b false)), (.c (.i .i64 0)), (.c (.i .u64 0))])])
  (.lt (.bin .sub (.len (.v 48)) (.c (.i .i64 1))) (.loop [(.v 64), (.v 48)]
  (.lt (.bin .geq (.v 65) (.c (.i .i64 0))) (.ite (.v 67)
  (.chk (.inb (.v 66) (.v 65) 8) (.chk (.inb (.v 66) (.v 65) 8) (.call 65 [(true, (vr 13 12))] [(true, 8)]
  (.call 106 [(true, (vr 68 8))] [(false, 1)]
  (.lt (.bin .leq (.idx (.v 66) (.v 65) 0) (.v 76)) (.ite (.v 77)
  (.call 106 [(true, (idr (.v 66) (.v 65) 0 8))] [(false, 1)]
  (.lt (.bin .leq (.v 68) (.v 78)) (.ite (.v 79)
  (.chk (.inb (.v 66) (.v 65) 8) (.chk (.inb (.v 66) (.v 65) 8) (.lt (.bin .sub (.v 65) (.c (.i .i64 1))) (.cont 1 [(.v 80), (.put (.v 66) (.v 65) 3 (vr 18 4))]))))
  (.lt (.bin .sub (.v 65) (.c (.i .i64 1))) (.cont 1 [(.v 80), (.v 66)])))))
  (.lt (.bin .sub (.v 65) (.c (.i .i64 1))) (.cont 1 [(.v 78), (.v 66)]))))))))
  (.call 62 [(true, (vr 0 13)), (false, [(.v 14)]), (false, [(.v 66)])] [(true, 13)]
  (.ret [(true, (vr 68 13)), (true, [(.c (.i .i64 0)), (.c (.i .i64 0)), (.c (.i .u64 0)), (.c (.b false)), (.c (.i .i64 0)), (.c (.i .u64 0))])])))))))))))))))))
  (.lt (.bin .add (.v 31) (.c (.i .i64 1))) (.cont 0 [(.v 30), (.v 45)])))))
  (.lt (.bin .add (.v 31) (.c (.i .i64 1))) (.cont 0 [(.v 30), (.v 43)])))))))
  (.ret [(true, (vr 0 13)), (true, [(.c (.i .i64 7)), (.c (.i .i64 0)), (.c (.i .u64 0)), (.c (.b false)), (.c (.i .i64 0)), (.c (.i .u64 0))])])))))
  (.chk (.inb (.v 6) (.v 14) 1) (.lt (.len (.idx (.v 6) (.v 14) 0)) (.loop [(.c (.i .i64 0)), (.c (.i .i64 0))]
  (.lt (.bin .lss (.v 31) (.v 29)) (.ite (.v 32)
  (.chk (.inb (.idx (.v 6) (.v 14) 0) (.v 31) 8) (.call 65 [(true, (vr 13 12))] [(true, 8)]
  (.call 106 [(true, (vr 33 8))] [(false, 1)]
  (.lt (.bin .leq (.idx (.idx (.v 6) (.v 14) 0) (.v 31) 0) (.v 41)) (.ite (.v 42)
  (.call 106 [(true, [(.idx (.idx (.v 6) (.v 14) 0) (.v 31) 0), (.idx (.idx (.v 6) (.v 14) 0) (.v 31) 1), (.idx (.idx (.v 6) (.v 14) 0) (.v 31) 2), (.idx (.idx (.v 6) (.v 14) 0) (.v 31) 3), (.idx (.idx (.v 6) (.v 14) 0) (.v 31) 4), (.idx (.idx (.v 6) (.v 14) 0) (.v 31) 5), (.idx (.idx (.v 6) (.v 14) 0) (.v 31) 6), (.idx (.idx (.v 6) (.v 14) 0) (.v 31) 7)])] [(false, 1)]
  (.lt (.bin .leq (.v 33) (.v 43)) (.ite (.v 44)
  (.lt (.bin .geq (.v 31) (.c (.i .i64 0))) (.lt (.un .not (.v 45)) (.ite (.v 46)
  (.ret [(true, (vr 0 13)), (true, [(.c (.i .i64 7)), (.c (.i .i64 0)), (.c (.i .u64 0)), (.c (.b false)), (.c (.i .i64 0)), (.c (.i .u64 0))])])
  (.call 67 [(true, (vr 0 13)), (false, [(.v 14)])] [(false, 1)]
  (.call (nwOff + 108) [(false, [(.v 47)]), (false, [(.v 15)]), (false, [(.v 17)])] [(false, 1)]
  (.chk (.room (.len (.v 48)) 0) (.call 62 [(true, (vr 0 13)), (false, [(.v 14)]), (false, [(.v 48)])] [(true, 13)]
  (.call 58 [(true, (vr 49 13))] [(false, 1)]
  (.lt (.bin .gtr (.v 62) (.v 1)) (.chk (.eqt true (.v 63) (.v 63)) (.ite (.v 63)
  (.ret [(true, (vr 0 13)), (true, [(.c (.i .i64 8)), (.c (.i .i64 0)), (.c (.i .u64 0)), (.c (.b false)), (.c (.i .i64 0)), (.c (.i .u64 0))])])
  (.lt (.bin .sub (.len (.v 48)) (.c (.i .i64 1))) (.loop [(.v 64), (.v 48)]
  (.lt (.bin .geq (.v 65) (.c (.i .i64 0))) (.ite (.v 67)
  (.chk (.inb (.v 66) (.v 65) 8) (.chk (.inb (.v 66) (.v 65) 8) (.call 65 [(true, (vr 13 12))] [(true, 8)]
  (.call 106 [(true, (vr 68 8))] [(false, 1)]
  (.lt (.bin .leq (.idx (.v 66) (.v 65) 0) (.v 76)) (.ite (.v 77)
  (.call 106 [(true, (idr (.v 66) (.v 65) 0 8))] [(false, 1)]
  (.lt (.bin .leq (.v 68) (.v 78)) (.ite (.v 79)
  (.chk (.inb (.v 66) (.v 65) 8) (.chk (.inb (.v 66) (.v 65) 8) (.lt (.bin .sub (.v 65) (.c (.i .i64 1))) (.cont 1 [(.v 80), (.put (.v 66) (.v 65) 3 (vr 18 4))]))))
  (.lt (.bin .sub (.v 65) (.c (.i .i64 1))) (.cont 1 [(.v 80), (.v 66)])))))
  (.lt (.bin .sub (.v 65) (.c (.i .i64 1))) (.cont 1 [(.v 78), (.v 66)]))))))))
  (.call 62 [(true, (vr 0 13)), (false, [(.v 14)]), (false, [(.v 66)])] [(true, 13)]
  (.ret [(true, (vr 68 13)), (true, [(.c (.i .i64 0)), (.c (.i .i64 0)), (.c (.i .u64 0)), (.c (.b false)), (.c (.i .i64 0)), (.c (.i .u64 0))])])))))))))))))))))
  (.lt (.bin .add (.v 31) (.c (.i .i64 1))) (.cont 0 [(.v 30), (.v 45)])))))
  (.lt (.bin .add (.v 31) (.c (.i .i64 1))) (.cont 0 [(.v 30), (.v 43)])))))))
  (.ret [(true, (vr 0 13)), (true, [(.c (.i .i64 7)), (.c (.i .i64 0)), (.c (.i .u64 0)), (.c (.b false)), (.c (.i .i64 0)), (.c (.i .u64 0))])])))))))))))))
theorem flat_guard_c : compile envIrFl 3000 36 = .ok flat_guard_ir := by kernel_rfl
theorem flat_guard_p : paramShape Tryz.prog 36 = some [(true, 13), (true, 12)] := by kernel_rfl
theorem flat_guard_k : Known gAll 36 (.ir [(true, 13), (true, 12)] flat_guard_ir) := known_ir (E := envIrFl) (n := 3000) rfl rfl flat_guard_c flat_guard_p
/-- atlas/flat.access -/
def flat_access_ir : IR :=
  (.lt (.bin .lss (.v 22) (.c (.i .i64 0))) (.ite (.v 25)
  (.ret [(true, (vr 0 13)), (true, [(.c (.i .i64 1)), (.c (.i .i64 0)), (.c (.i .u64 0)), (.c (.b false)), (.c (.i .i64 0)), (.c (.i .u64 0))])])
  (.lt (.bin .gtr (.v 22) (.c (.i .i64 2))) (.ite (.v 26)
  (.ret [(true, (vr 0 13)), (true, [(.c (.i .i64 1)), (.c (.i .i64 0)), (.c (.i .u64 0)), (.c (.b false)), (.c (.i .i64 0)), (.c (.i .u64 0))])])
  (.call 77 [(false, [(.v 23)])] [(false, 1)]
  (.lt (.un .not (.v 27)) (.ite (.v 28)
  (.ret [(true, (vr 0 13)), (true, [(.c (.i .i64 1)), (.c (.i .i64 0)), (.c (.i .u64 0)), (.c (.b false)), (.c (.i .i64 0)), (.c (.i .u64 0))])])
  (.lt (.bin .eql (.v 9) (.c (.i .i64 (-1)))) (.ite (.v 29)
  (.ret [(true, (vr 0 13)), (true, [(.c (.i .i64 4)), (.c (.i .i64 0)), (.c (.i .u64 0)), (.c (.b false)), (.c (.i .i64 0)), (.c (.i .u64 0))])])
  (.lt (.cv .u64 (.v 23)) (.call 68 [(false, [(.v 15)]), (false, [(.v 30)])] [(false, 1)]
  (.lt (.un .not (.v 31)) (.ite (.v 32)
  (.call 78 [(false, [(.v 22)]), (false, [(.v 15)])] [(true, 3)]
  (.ret [(true, (vr 0 13)), (true, [(.c (.i .i64 0)), (.c (.i .i64 0)), (.c (.i .u64 0)), (.v 33), (.v 34), (.v 35)])]))
  (.call 79 [(true, (vr 0 13)), (false, [(.v 15)])] [(false, 1), (false, 1), (false, 1)]
  (.lt (.un .not (.v 35)) (.ite (.v 36)
  (.call 81 [(false, [(.v 22)]), (false, [(.v 15)])] [(true, 3)]
  (.ret [(true, (vr 0 13)), (true, [(.c (.i .i64 0)), (.c (.i .i64 0)), (.c (.i .u64 0)), (.v 37), (.v 38), (.v 39)])]))
  (.call 67 [(true, (vr 0 13)), (false, [(.v 33)])] [(false, 1)]
  (.chk (.inb (.v 37) (.v 34) 8) (.call 80 [(true, (idr (.v 37) (.v 34) 3 4)), (true, [(.v 22), (.v 10), (.v 11), (.v 12)])] [(false, 1)]
  (.lt (.un .not (.v 38)) (.ite (.v 39)
  (.call 81 [(false, [(.v 22)]), (false, [(.v 15)])] [(true, 3)]
  (.ret [(true, (vr 0 13)), (true, [(.c (.i .i64 0)), (.c (.i .i64 0)), (.c (.i .u64 0)), (.v 40), (.v 41), (.v 42)])]))
  (.lt (.bin .eql (.v 33) (.c (.i .i64 (-1)))) (.ite (.v 40)
  (.chk (.inb (.v 8) (.v 34) 8) (.lt (.bin .add (.idx (.v 8) (.v 34) 1) (.v 15)) (.lt (.bin .sub (.v 41) (.idx (.v 8) (.v 34) 0)) (.lt (.bin .neq (.v 22) (.c (.i .i64 2))) (.ite (.v 43)
  (.call 82 [(true, [(.v 4), (.v 5)]), (false, [(.v 42)]), (false, [(.v 23)])] [(false, 1), (false, 1)]
  (.ret [(true, (vr 0 13)), (true, [(.c (.i .i64 0)), (.c (.i .i64 0)), (.v 44), (.c (.b false)), (.c (.i .i64 0)), (.c (.i .u64 0))])]))
  (.lt (.bin .eql (.v 33) (.c (.i .i64 (-1)))) (.ite (.v 44)
  (.may (.bin .eql (.len (.v 8)) (.c (.i .i64 0)))
  (.chk (.inb (.c (.sl 0 [])) (.v 34) 8) (.chk (.c (.b false)) (.ret [])))
  (.chk (.room (.len (.app 8 (.c (.sl 8 [])) (.v 8))) 33) (.chk (.inb (.app 8 (.c (.sl 8 [])) (.v 8)) (.v 34) 8) (.chk (.inb (.app 8 (.c (.sl 8 [])) (.v 8)) (.v 34) 8) (.call 62 [(true, (vr 0 13)), (false, [(.v 33)]), (false, [(.put (.app 8 (.c (.sl 8 [])) (.v 8)) (.v 34) 7 [(.c (.b true))])])] [(true, 13)]
  (.call 84 [(true, [(.v 49), (.v 50)]), (false, [(.v 42)]), (false, [(.v 23)]), (false, [(.v 24)])] [(true, 2), (false, 1)]
  (.ret [(true, (vr 45 4 ++ [(.v 58), (.v 59)] ++ vr 51 7)), (true, [(.c (.i .i64 0)), (.c (.i .i64 0)), (.c (.i .u64 0)), (.c (.b false)), (.c (.i .i64 0)), (.c (.i .u64 0))])])))))))
  (.chk (.inb (.v 6) (.v 33) 1) (.may (.bin .eql (.len (.idx (.v 6) (.v 33) 0)) (.c (.i .i64 0)))
  (.chk (.inb (.c (.sl 0 [])) (.v 34) 8) (.chk (.c (.b false)) (.ret [])))
  (.chk (.room (.len (.app 8 (.c (.sl 8 [])) (.idx (.v 6) (.v 33) 0))) 33) (.chk (.inb (.app 8 (.c (.sl 8 [])) (.idx (.v 6) (.v 33) 0)) (.v 34) 8) (.chk (.inb (.app 8 (.c (.sl 8 [])) (.idx (.v 6) (.v 33) 0)) (.v 34) 8) (.call 62 [(true, (vr 0 13)), (false, [(.v 33)]), (false, [(.put (.app 8 (.c (.sl 8 [])) (.idx (.v 6) (.v 33) 0)) (.v 34) 7 [(.c (.b true))])])] [(true, 13)]
  (.call 84 [(true, [(.v 49), (.v 50)]), (false, [(.v 42)]), (false, [(.v 23)]), (false, [(.v 24)])] [(true, 2), (false, 1)]
  (.ret [(true, (vr 45 4 ++ [(.v 58), (.v 59)] ++ vr 51 7)), (true, [(.c (.i .i64 0)), (.c (.i .i64 0)), (.c (.i .u64 0)), (.c (.b false)), (.c (.i .i64 0)), (.c (.i .u64 0))])])))))))))))))))
  (.chk (.inb (.v 6) (.v 33) 1) (.chk (.inb (.idx (.v 6) (.v 33) 0) (.v 34) 8) (.lt (.bin .add (.idx (.idx (.v 6) (.v 33) 0) (.v 34) 1) (.v 15)) (.lt (.bin .sub (.v 41) (.idx (.idx (.v 6) (.v 33) 0) (.v 34) 0)) (.lt (.bin .neq (.v 22) (.c (.i .i64 2))) (.ite (.v 43)
  (.call 82 [(true, [(.v 4), (.v 5)]), (false, [(.v 42)]), (false, [(.v 23)])] [(false, 1), (false, 1)]
  (.ret [(true, (vr 0 13)), (true, [(.c (.i .i64 0)), (.c (.i .i64 0)), (.v 44), (.c (.b false)), (.c (.i .i64 0)), (.c (.i .u64 0))])]))
  (.lt (.bin .eql (.v 33) (.c (.i .i64 (-1)))) (.ite (.v 44)
  (.may (.bin .eql (.len (.v 8)) (.c (.i .i64 0)))
  (.chk (.inb (.c (.sl 0 [])) (.v 34) 8) (.chk (.c (.b false)) (.ret [])))
  (.chk (.room (.len (.app 8 (.c (.sl 8 [])) (.v 8))) 33) (.chk (.inb (.app 8 (.c (.sl 8 [])) (.v 8)) (.v 34) 8) (.chk (.inb (.app 8 (.c (.sl 8 [])) (.v 8)) (.v 34) 8) (.call 62 [(true, (vr 0 13)), (false, [(.v 33)]), (false, [(.put (.app 8 (.c (.sl 8 [])) (.v 8)) (.v 34) 7 [(.c (.b true))])])] [(true, 13)]
  (.call 84 [(true, [(.v 49), (.v 50)]), (false, [(.v 42)]), (false, [(.v 23)]), (false, [(.v 24)])] [(true, 2), (false, 1)]
  (.ret [(true, (vr 45 4 ++ [(.v 58), (.v 59)] ++ vr 51 7)), (true, [(.c (.i .i64 0)), (.c (.i .i64 0)), (.c (.i .u64 0)), (.c (.b false)), (.c (.i .i64 0)), (.c (.i .u64 0))])])))))))
  (.chk (.inb (.v 6) (.v 33) 1) (.may (.bin .eql (.len (.idx (.v 6) (.v 33) 0)) (.c (.i .i64 0)))
  (.chk (.inb (.c (.sl 0 [])) (.v 34) 8) (.chk (.c (.b false)) (.ret [])))
  (.chk (.room (.len (.app 8 (.c (.sl 8 [])) (.idx (.v 6) (.v 33) 0))) 33) (.chk (.inb (.app 8 (.c (.sl 8 [])) (.idx (.v 6) (.v 33) 0)) (.v 34) 8) (.chk (.inb (.app 8 (.c (.sl 8 [])) (.idx (.v 6) (.v 33) 0)) (.v 34) 8) (.call 62 [(true, (vr 0 13)), (false, [(.v 33)]), (false, [(.put (.app 8 (.c (.sl 8 [])) (.idx (.v 6) (.v 33) 0)) (.v 34) 7 [(.c (.b true))])])] [(true, 13)]
  (.call 84 [(true, [(.v 49), (.v 50)]), (false, [(.v 42)]), (false, [(.v 23)]), (false, [(.v 24)])] [(true, 2), (false, 1)]
  (.ret [(true, (vr 45 4 ++ [(.v 58), (.v 59)] ++ vr 51 7)), (true, [(.c (.i .i64 0)), (.c (.i .i64 0)), (.c (.i .u64 0)), (.c (.b false)), (.c (.i .i64 0)), (.c (.i .u64 0))])])))))))))))))))))))))))))))))))))))))))
theorem flat_access_c : compile envIrFl 3000 37 = .ok flat_access_ir := by kernel_rfl
theorem flat_access_p : paramShape Tryz.prog 37 = some [(true, 13), (true, 12)] := by kernel_rfl
theorem flat_access_k : Known gAll 37 (.ir [(true, 13), (true, 12)] flat_access_ir) := known_ir (E := envIrFl) (n := 3000) rfl rfl flat_access_c flat_access_p
/-- atlas/flat.set -/
def flat_set_ir : IR :=
  (.lt (.bin .neq (.v 22) (.c (.i .i64 0))) (.ite (.v 25)
  (.lt (.bin .neq (.v 22) (.c (.i .i64 1))) (.ite (.v 26)
  (.ret [(true, (vr 0 13)), (true, [(.c (.i .i64 1)), (.c (.i .i64 0)), (.c (.i .u64 0)), (.c (.b false)), (.c (.i .i64 0)), (.c (.i .u64 0))])])
  (.call 85 [(false, [(.v 24)]), (false, [(.c (.i .i64 0))]), (false, [(.c (.i .i64 1))])] [(false, 1)]
  (.lt (.bin .eql (.v 27) (.c (.i .u64 1))) (.call 85 [(false, [(.v 24)]), (false, [(.c (.i .i64 1))]), (false, [(.c (.i .i64 1))])] [(false, 1)]
  (.lt (.bin .eql (.v 29) (.c (.i .u64 1))) (.ret [(true, (vr 0 10 ++ [(.v 22), (.v 28), (.v 30)])), (true, [(.c (.i .i64 0)), (.c (.i .i64 0)), (.c (.i .u64 0)), (.c (.b false)), (.c (.i .i64 0)), (.c (.i .u64 0))])])))))))
  (.call 85 [(false, [(.v 24)]), (false, [(.c (.i .i64 0))]), (false, [(.c (.i .i64 1))])] [(false, 1)]
  (.lt (.bin .eql (.v 26) (.c (.i .u64 1))) (.call 85 [(false, [(.v 24)]), (false, [(.c (.i .i64 1))]), (false, [(.c (.i .i64 1))])] [(false, 1)]
  (.lt (.bin .eql (.v 28) (.c (.i .u64 1))) (.ret [(true, (vr 0 10 ++ [(.v 22), (.v 27), (.v 29)])), (true, [(.c (.i .i64 0)), (.c (.i .i64 0)), (.c (.i .u64 0)), (.c (.b false)), (.c (.i .i64 0)), (.c (.i .u64 0))])])))))))
theorem flat_set_c : compile envIrFl 3000 38 = .ok flat_set_ir := by kernel_rfl
theorem flat_set_p : paramShape Tryz.prog 38 = some [(true, 13), (true, 12)] := by kernel_rfl
theorem flat_set_k : Known gAll 38 (.ir [(true, 13), (true, 12)] flat_set_ir) := known_ir (E := envIrFl) (n := 3000) rfl rfl flat_set_c flat_set_p
/-- atlas/flat.find -/
def flat_find_ir : IR :=
  (.lt (.bin .eql (.v 9) (.c (.i .i64 (-1)))) (.ite (.v 14)
  (.ret [(false, [(.c (.i .i64 0))]), (false, [(.c (.i .i64 0))]), (false, [(.c (.b false))])])
  (.loop [(.c (.i .i64 0)), (.c (.i .i64 0)), (.c (.b false)), (.c (.i .i64 0))]
  (.lt (.bin .lss (.v 18) (.c (.i .i64 2))) (.ite (.v 19)
  (.chk (.inb (.cat (.one [(.v 9)]) (.one [(.c (.i .i64 (-1)))])) (.v 18) 1) (.chk (.inb (.cat (.one [(.v 9)]) (.one [(.c (.i .i64 (-1)))])) (.v 18) 1) (.lt (.bin .eql (.idx (.cat (.one [(.v 9)]) (.one [(.c (.i .i64 (-1)))])) (.v 18) 0) (.c (.i .i64 (-1)))) (.ite (.v 20)
  (.lt (.len (.v 8)) (.loop [(.c (.i .i64 0)), (.c (.i .i64 0))]
  (.lt (.bin .lss (.v 23) (.v 21)) (.ite (.v 24)
  (.chk (.inb (.v 8) (.v 23) 8) (.lt (.bin .geq (.v 13) (.idx (.v 8) (.v 23) 0)) (.ite (.v 25)
  (.call 106 [(true, (idr (.v 8) (.v 23) 0 8))] [(false, 1)]
  (.lt (.bin .leq (.v 13) (.v 26)) (.ite (.v 27)
  (.lt (.bin .geq (.v 23) (.c (.i .i64 0))) (.ite (.v 28)
  (.ret [(false, [(.idx (.cat (.one [(.v 9)]) (.one [(.c (.i .i64 (-1)))])) (.v 18) 0)]), (false, [(.v 23)]), (false, [(.c (.b true))])])
  (.lt (.bin .add (.v 18) (.c (.i .i64 1))) (.cont 0 [(.v 15), (.v 16), (.v 17), (.v 29)]))))
  (.lt (.bin .add (.v 23) (.c (.i .i64 1))) (.cont 1 [(.v 22), (.v 28)])))))
  (.lt (.bin .add (.v 23) (.c (.i .i64 1))) (.cont 1 [(.v 22), (.v 26)])))))
  (.lt (.bin .add (.v 18) (.c (.i .i64 1))) (.cont 0 [(.v 15), (.v 16), (.v 17), (.v 25)]))))))
  (.chk (.inb (.v 6) (.idx (.cat (.one [(.v 9)]) (.one [(.c (.i .i64 (-1)))])) (.v 18) 0) 1) (.lt (.len (.idx (.v 6) (.idx (.cat (.one [(.v 9)]) (.one [(.c (.i .i64 (-1)))])) (.v 18) 0) 0)) (.loop [(.c (.i .i64 0)), (.c (.i .i64 0))]
  (.lt (.bin .lss (.v 23) (.v 21)) (.ite (.v 24)
  (.chk (.inb (.idx (.v 6) (.idx (.cat (.one [(.v 9)]) (.one [(.c (.i .i64 (-1)))])) (.v 18) 0) 0) (.v 23) 8) (.lt (.bin .geq (.v 13) (.idx (.idx (.v 6) (.idx (.cat (.one [(.v 9)]) (.one [(.c (.i .i64 (-1)))])) (.v 18) 0) 0) (.v 23) 0)) (.ite (.v 25)
  (.call 106 [(true, [(.idx (.idx (.v 6) (.idx (.cat (.one [(.v 9)]) (.one [(.c (.i .i64 (-1)))])) (.v 18) 0) 0) (.v 23) 0), (.idx (.idx (.v 6) (.idx (.cat (.one [(.v 9)]) (.one [(.c (.i .i64 (-1)))])) (.v 18) 0) 0) (.v 23) 1), (.idx (.idx (.v 6) (.idx (.cat (.one [(.v 9)]) (.one [(.c (.i .i64 (-1)))])) (.v 18) 0) 0) (.v 23) 2), (.idx (.idx (.v 6) (.idx (.cat (.one [(.v 9)]) (.one [(.c (.i .i64 (-1)))])) (.v 18) 0) 0) (.v 23) 3), (.idx (.idx (.v 6) (.idx (.cat (.one [(.v 9)]) (.one [(.c (.i .i64 (-1)))])) (.v 18) 0) 0) (.v 23) 4), (.idx (.idx (.v 6) (.idx (.cat (.one [(.v 9)]) (.one [(.c (.i .i64 (-1)))])) (.v 18) 0) 0) (.v 23) 5), (.idx (.idx (.v 6) (.idx (.cat (.one [(.v 9)]) (.one [(.c (.i .i64 (-1)))])) (.v 18) 0) 0) (.v 23) 6), (.idx (.idx (.v 6) (.idx (.cat (.one [(.v 9)]) (.one [(.c (.i .i64 (-1)))])) (.v 18) 0) 0) (.v 23) 7)])] [(false, 1)]
  (.lt (.bin .leq (.v 13) (.v 26)) (.ite (.v 27)
  (.lt (.bin .geq (.v 23) (.c (.i .i64 0))) (.ite (.v 28)
  (.ret [(false, [(.idx (.cat (.one [(.v 9)]) (.one [(.c (.i .i64 (-1)))])) (.v 18) 0)]), (false, [(.v 23)]), (false, [(.c (.b true))])])
  (.lt (.bin .add (.v 18) (.c (.i .i64 1))) (.cont 0 [(.v 15), (.v 16), (.v 17), (.v 29)]))))
  (.lt (.bin .add (.v 23) (.c (.i .i64 1))) (.cont 1 [(.v 22), (.v 28)])))))
  (.lt (.bin .add (.v 23) (.c (.i .i64 1))) (.cont 1 [(.v 22), (.v 26)])))))
  (.lt (.bin .add (.v 18) (.c (.i .i64 1))) (.cont 0 [(.v 15), (.v 16), (.v 17), (.v 25)])))))))))))
  (.ret [(false, [(.c (.i .i64 0))]), (false, [(.c (.i .i64 0))]), (false, [(.c (.b false))])]))))))
theorem flat_find_c : compile envIrFl 3000 79 = .ok flat_find_ir := by kernel_rfl
theorem flat_find_p : paramShape Tryz.prog 79 = some [(true, 13), (false, 1)] := by kernel_rfl
theorem flat_find_k : Known gAll 79 (.ir [(true, 13), (false, 1)] flat_find_ir) := known_ir (E := envIrFl) (n := 3000) rfl rfl flat_find_c flat_find_p
/-- atlas/flat.list -/
def flat_list_ir : IR :=
  (.lt (.bin .eql (.v 13) (.c (.i .i64 (-1)))) (.ite (.v 14)
  (.ret [(false, [(.v 8)])])
  (.chk (.inb (.v 6) (.v 13) 1) (.ret [(false, [(.idx (.v 6) (.v 13) 0)])]))))
theorem flat_list_c : compile envIrFl 3000 67 = .ok flat_list_ir := by kernel_rfl
theorem flat_list_p : paramShape Tryz.prog 67 = some [(true, 13), (false, 1)] := by kernel_rfl
theorem flat_list_k : Known gAll 67 (.ir [(true, 13), (false, 1)] flat_list_ir) := known_ir (E := envIrFl) (n := 3000) rfl rfl flat_list_c flat_list_p
/-- atlas/flat.with -/
def flat_with_ir : IR :=
  (.call 98 [(false, [(.v 14)]), (false, [(.c (.f 99))])] []
  (.lt (.bin .eql (.v 13) (.c (.i .i64 (-1)))) (.ite (.v 15)
  (.ret [(true, (vr 0 8 ++ [(.v 14)] ++ vr 9 4))])
  (.may (.bin .eql (.len (.v 6)) (.c (.i .i64 0)))
  (.chk (.inb (.c (.sl 0 [])) (.v 13) 1) (.chk (.c (.b false)) (.ret [])))
  (.chk (.room (.len (.app 1 (.c (.sl 1 [])) (.v 6))) 25) (.chk (.inb (.app 1 (.c (.sl 1 [])) (.v 6)) (.v 13) 1) (.chk (.inb (.app 1 (.c (.sl 1 [])) (.v 6)) (.v 13) 1) (.ret [(true, (vr 0 6 ++ [(.put (.app 1 (.c (.sl 1 [])) (.v 6)) (.v 13) 0 [(.v 14)])] ++ vr 7 6))]))))))))
theorem flat_with_c : compile envIrFl 3000 62 = .ok flat_with_ir := by kernel_rfl
theorem flat_with_p : paramShape Tryz.prog 62 = some [(true, 13), (false, 1), (false, 1)] := by kernel_rfl
theorem flat_with_k : Known gAll 62 (.ir [(true, 13), (false, 1), (false, 1)] flat_with_ir) := known_ir (E := envIrFl) (n := 3000) rfl rfl flat_with_c flat_with_p
def flat_with_eir : IR :=
  (.call (srtOff + 98) [(false, [(.v 14)]), (false, [(.c (.f 99))])] [(false, 1)]
  (.lt (.bin .eql (.v 13) (.c (.i .i64 (-1)))) (.ite (.v 16)
  (.ret [(true, (vr 0 8 ++ [(.v 15)] ++ vr 9 4))])
  (.may (.bin .eql (.len (.v 6)) (.c (.i .i64 0)))
  (.chk (.inb (.c (.sl 0 [])) (.v 13) 1) (.chk (.c (.b false)) (.ret [])))
  (.chk (.room (.len (.app 1 (.c (.sl 1 [])) (.v 6))) 25) (.chk (.inb (.app 1 (.c (.sl 1 [])) (.v 6)) (.v 13) 1) (.chk (.inb (.app 1 (.c (.sl 1 [])) (.v 6)) (.v 13) 1) (.ret [(true, (vr 0 6 ++ [(.put (.app 1 (.c (.sl 1 [])) (.v 6)) (.v 13) 0 [(.v 15)])] ++ vr 7 6))]))))))))
theorem flat_with_e : compileE envIrFl 3000 62 = .ok flat_with_eir := by kernel_rfl
/-- atlas/flat.where -/
def flat_where_ir : IR :=
  (.lt (.bin .eql (.v 14) (.c (.i .i64 (-1)))) (.lt (.bin .lss (.v 17) (.c (.i .i64 0))) (.ite (.v 26)
  (.ret [(false, [(.c (.i .i64 1))])])
  (.lt (.bin .gtr (.v 17) (.c (.i .i64 2))) (.ite (.v 27)
  (.ret [(false, [(.c (.i .i64 1))])])
  (.lt (.un .not (.v 25)) (.ite (.v 28)
  (.lt (.bin .geq (.v 14) (.c (.i .i64 0))) (.ite (.v 29)
  (.lt (.len (.v 7)) (.lt (.bin .lss (.v 14) (.v 30)) (.ite (.v 31)
  (.chk (.inb (.v 7) (.v 14) 1) (.lt (.un .not (.idx (.v 7) (.v 14) 0)) (.ite (.v 32)
  (.ret [(false, [(.c (.i .i64 4))])])
  (.call 102 [(false, [(.v 15)]), (false, [(.v 17)])] [(false, 1)]
  (.lt (.un .not (.v 33)) (.ite (.v 34)
  (.ret [(false, [(.c (.i .i64 2))])])
  (.call 103 [(false, [(.v 15)]), (false, [(.c (.i .i64 2))])] [(false, 1)]
  (.lt (.bin .eql (.v 35) (.c (.i .i64 511))) (.lt (.un .not (.eqt true (.v 25) (.v 36))) (.ite (.v 37)
  (.ret [(false, [(.c (.i .i64 3))])])
  (.ite (.v 25)
  (.lt (.bin .eql (.v 17) (.c (.i .i64 2))) (.ite (.v 38)
  (.ret [(false, [(.c (.i .i64 3))])])
  (.ret [(false, [(.c (.i .i64 0))])])))
  (.ret [(false, [(.c (.i .i64 0))])]))))))))))))
  (.ret [(false, [(.c (.i .i64 4))])]))))
  (.ret [(false, [(.c (.i .i64 4))])])))
  (.call 102 [(false, [(.v 15)]), (false, [(.v 17)])] [(false, 1)]
  (.lt (.un .not (.v 29)) (.ite (.v 30)
  (.ret [(false, [(.c (.i .i64 2))])])
  (.call 103 [(false, [(.v 15)]), (false, [(.c (.i .i64 2))])] [(false, 1)]
  (.lt (.bin .eql (.v 31) (.c (.i .i64 511))) (.lt (.un .not (.eqt true (.v 25) (.v 32))) (.ite (.v 33)
  (.ret [(false, [(.c (.i .i64 3))])])
  (.ite (.v 25)
  (.lt (.bin .eql (.v 17) (.c (.i .i64 2))) (.ite (.v 34)
  (.ret [(false, [(.c (.i .i64 3))])])
  (.ret [(false, [(.c (.i .i64 0))])])))
  (.ret [(false, [(.c (.i .i64 0))])]))))))))))))))))
theorem flat_where_c : compile envIrFl 3000 64 = .ok flat_where_ir := by kernel_rfl
theorem flat_where_p : paramShape Tryz.prog 64 = some [(true, 13), (true, 12)] := by kernel_rfl
theorem flat_where_k : Known gAll 64 (.ir [(true, 13), (true, 12)] flat_where_ir) := known_ir (E := envIrFl) (n := 3000) rfl rfl flat_where_c flat_where_p
/-- atlas/flat.region -/
def flat_region_ir : IR :=
  (.ret [(true, (vr 2 7 ++ [(.c (.b false))]))])
theorem flat_region_c : compile envIrFl 3000 65 = .ok flat_region_ir := by kernel_rfl
theorem flat_region_p : paramShape Tryz.prog 65 = some [(true, 12)] := by kernel_rfl
theorem flat_region_k : Known gAll 65 (.ir [(true, 12)] flat_region_ir) := known_ir (E := envIrFl) (n := 3000) rfl rfl flat_region_c flat_region_p
/-- slices.Concat[[]atlas/api.Page,atlas/api.Page] -/
def api_Page__ir : IR :=
  (.lt (.len (.v 0)) (.loop [(.c (.i .i64 0)), (.c (.i .i64 0))]
  (.lt (.bin .lss (.v 3) (.v 1)) (.ite (.v 4)
  (.chk (.inb (.v 0) (.v 3) 1) (.lt (.len (.idx (.v 0) (.v 3) 0)) (.lt (.bin .add (.v 2) (.v 5)) (.lt (.bin .lss (.v 6) (.c (.i .i64 0))) (.ite (.v 7)
  (.chk (.c (.b false)) (.ret []))
  (.lt (.bin .add (.v 3) (.c (.i .i64 1))) (.cont 0 [(.v 6), (.v 8)])))))))
  (.chk (.eqt false (.v 2) (.v 2)) (.call (eatOff + 104) [(false, [(.c (.sl 0 []))]), (false, [(.v 2)])] [(false, 1)]
  (.lt (.len (.v 0)) (.loop [(.c (.i .i64 0)), (.v 5)]
  (.lt (.bin .lss (.v 7) (.v 6)) (.ite (.v 9)
  (.chk (.inb (.v 0) (.v 7) 1) (.chk (.room (.len (.app 8 (.v 8) (.idx (.v 0) (.v 7) 0))) 33) (.lt (.bin .add (.v 7) (.c (.i .i64 1))) (.cont 1 [(.v 10), (.app 8 (.v 8) (.idx (.v 0) (.v 7) 0))]))))
  (.ret [(false, [(.v 8)])])))))))))))
theorem api_Page__c : compile envIrFl 3000 66 = .ok api_Page__ir := by kernel_rfl
theorem api_Page__p : paramShape Tryz.prog 66 = some [(false, 1)] := by kernel_rfl
theorem api_Page__k : Known gAll 66 (.ir [(false, 1)] api_Page__ir) := known_ir (E := envIrFl) (n := 3000) rfl rfl api_Page__c api_Page__p
theorem api_Page__n : compileN envIrFl 3000 66 = .ok api_Page__ir := by kernel_rfl
/-- atlas/flat.last -/
def flat_last_ir : IR :=
  (.call 40 [(false, [(.v 2)])] [(false, 1)]
  (.lt (.bin .add (.v 0) (.v 8)) (.lt (.bin .sub (.v 9) (.c (.i .u64 1))) (.ret [(false, [(.v 10)])]))))
theorem flat_last_c : compile envIrFl 3000 106 = .ok flat_last_ir := by kernel_rfl
theorem flat_last_p : paramShape Tryz.prog 106 = some [(true, 8)] := by kernel_rfl
theorem flat_last_k : Known gAll 106 (.ir [(true, 8)] flat_last_ir) := known_ir (E := envIrFl) (n := 3000) rfl rfl flat_last_c flat_last_p
/-- atlas/flat.cut -/
def flat_cut_ir : IR :=
  (.may (.bin .eql (.len (.v 0)) (.c (.i .i64 0)))
  (.loop [(.c (.sl 0 []))]
  (.loop [(.c (.i .i64 0)), (.c (.i .i64 0))]
  (.lt (.bin .lss (.v 5) (.len (.v 3))) (.ite (.v 6)
  (.chk (.inb (.v 3) (.v 5) 8) (.chk (.inb (.v 3) (.v 5) 8) (.lt (.bin .gtr (.idx (.v 3) (.v 5) 2) (.v 2)) (.ite (.v 7)
  (.lt (.bin .geq (.v 1) (.idx (.v 3) (.v 5) 0)) (.ite (.v 8)
  (.call 106 [(true, (idr (.v 3) (.v 5) 0 8))] [(false, 1)]
  (.lt (.bin .leq (.v 1) (.v 9)) (.ite (.v 10)
  (.lt (.bin .lss (.v 5) (.c (.i .i64 0))) (.ite (.v 11)
  (.ret [(false, [(.v 3)])])
  (.chk (.inb (.v 3) (.v 5) 8) (.chk (.inb (.v 3) (.v 5) 8) (.chk (.inb (.v 3) (.v 5) 8) (.chk (.inb (.v 3) (.v 5) 8) (.lt (.bin .sub (.idx (.v 3) (.v 5) 2) (.c (.i .i64 1))) (.call 40 [(false, [(.v 12)])] [(false, 1)]
  (.loop [(.c (.i .u64 0)), (.c (.sl 0 []))]
  (.lt (.bin .lss (.v 14) (.c (.i .u64 512))) (.ite (.v 16)
  (.lt (.bin .mul (.v 14) (.v 13)) (.lt (.bin .add (.idx (.v 3) (.v 5) 0) (.v 17)) (.lt (.bin .mul (.v 14) (.v 13)) (.lt (.bin .add (.idx (.v 3) (.v 5) 1) (.v 19)) (.lt (.bin .sub (.idx (.v 3) (.v 5) 2) (.c (.i .i64 1))) (.chk (.room (.len (.app 8 (.v 15) (.one ([(.v 18), (.v 20), (.v 21)] ++ idr (.v 3) (.v 5) 3 5)))) 33) (.lt (.bin .add (.v 14) (.c (.i .u64 1))) (.cont 2 [(.v 22), (.app 8 (.v 15) (.one ([(.v 18), (.v 20), (.v 21)] ++ idr (.v 3) (.v 5) 3 5)))]))))))))
  (.lt (.bin .add (.v 5) (.c (.i .i64 1))) (.chk (.eqt false (.v 5) (.v 5)) (.chk (.eqt false (.v 17) (.v 17)) (.call (eatOff + 125) [(false, [(.v 3)]), (false, [(.v 5)]), (false, [(.v 17)]), (false, [(.v 15)])] [(false, 1)]
  (.cont 0 [(.v 18)]))))))))))))))))
  (.lt (.bin .add (.v 5) (.c (.i .i64 1))) (.cont 1 [(.v 4), (.v 11)])))))
  (.lt (.bin .add (.v 5) (.c (.i .i64 1))) (.cont 1 [(.v 4), (.v 9)]))))
  (.lt (.bin .add (.v 5) (.c (.i .i64 1))) (.cont 1 [(.v 4), (.v 8)]))))))
  (.ret [(false, [(.v 3)])])))))
  (.chk (.room (.len (.app 8 (.c (.sl 8 [])) (.v 0))) 33) (.loop [(.app 8 (.c (.sl 8 [])) (.v 0))]
  (.loop [(.c (.i .i64 0)), (.c (.i .i64 0))]
  (.lt (.bin .lss (.v 5) (.len (.v 3))) (.ite (.v 6)
  (.chk (.inb (.v 3) (.v 5) 8) (.chk (.inb (.v 3) (.v 5) 8) (.lt (.bin .gtr (.idx (.v 3) (.v 5) 2) (.v 2)) (.ite (.v 7)
  (.lt (.bin .geq (.v 1) (.idx (.v 3) (.v 5) 0)) (.ite (.v 8)
  (.call 106 [(true, (idr (.v 3) (.v 5) 0 8))] [(false, 1)]
  (.lt (.bin .leq (.v 1) (.v 9)) (.ite (.v 10)
  (.lt (.bin .lss (.v 5) (.c (.i .i64 0))) (.ite (.v 11)
  (.ret [(false, [(.v 3)])])
  (.chk (.inb (.v 3) (.v 5) 8) (.chk (.inb (.v 3) (.v 5) 8) (.chk (.inb (.v 3) (.v 5) 8) (.chk (.inb (.v 3) (.v 5) 8) (.lt (.bin .sub (.idx (.v 3) (.v 5) 2) (.c (.i .i64 1))) (.call 40 [(false, [(.v 12)])] [(false, 1)]
  (.loop [(.c (.i .u64 0)), (.c (.sl 0 []))]
  (.lt (.bin .lss (.v 14) (.c (.i .u64 512))) (.ite (.v 16)
  (.lt (.bin .mul (.v 14) (.v 13)) (.lt (.bin .add (.idx (.v 3) (.v 5) 0) (.v 17)) (.lt (.bin .mul (.v 14) (.v 13)) (.lt (.bin .add (.idx (.v 3) (.v 5) 1) (.v 19)) (.lt (.bin .sub (.idx (.v 3) (.v 5) 2) (.c (.i .i64 1))) (.chk (.room (.len (.app 8 (.v 15) (.one ([(.v 18), (.v 20), (.v 21)] ++ idr (.v 3) (.v 5) 3 5)))) 33) (.lt (.bin .add (.v 14) (.c (.i .u64 1))) (.cont 2 [(.v 22), (.app 8 (.v 15) (.one ([(.v 18), (.v 20), (.v 21)] ++ idr (.v 3) (.v 5) 3 5)))]))))))))
  (.lt (.bin .add (.v 5) (.c (.i .i64 1))) (.chk (.eqt false (.v 5) (.v 5)) (.chk (.eqt false (.v 17) (.v 17)) (.call (eatOff + 125) [(false, [(.v 3)]), (false, [(.v 5)]), (false, [(.v 17)]), (false, [(.v 15)])] [(false, 1)]
  (.cont 0 [(.v 18)]))))))))))))))))
  (.lt (.bin .add (.v 5) (.c (.i .i64 1))) (.cont 1 [(.v 4), (.v 11)])))))
  (.lt (.bin .add (.v 5) (.c (.i .i64 1))) (.cont 1 [(.v 4), (.v 9)]))))
  (.lt (.bin .add (.v 5) (.c (.i .i64 1))) (.cont 1 [(.v 4), (.v 8)]))))))
  (.ret [(false, [(.v 3)])])))))))
theorem flat_cut_c : compile envIrFl 3000 108 = .ok flat_cut_ir := by kernel_rfl
theorem flat_cut_p : paramShape Tryz.prog 108 = some [(false, 1), (false, 1), (false, 1)] := by kernel_rfl
theorem flat_cut_k : Known gAll 108 (.ir [(false, 1), (false, 1), (false, 1)] flat_cut_ir) := known_ir (E := envIrFl) (n := 3000) rfl rfl flat_cut_c flat_cut_p
theorem flat_cut_n : compileN envIrFl 3000 108 = .ok flat_cut_ir := by kernel_rfl
def TIrFl : Tbl :=
  (58, .ir [(true, 13)] flat_Tables_ir) ::
  (31, .ir [(true, 13), (true, 12)] flat_create_ir) ::
  (32, .ir [(true, 13), (true, 12)] flat_destroy_ir) ::
  (33, .ir [(true, 13), (true, 12)] flat_change_ir) ::
  (34, .ir [(true, 13), (true, 12)] flat_lay_ir) ::
  (35, .ir [(true, 13), (true, 12)] flat_lift_ir) ::
  (36, .ir [(true, 13), (true, 12)] flat_guard_ir) ::
  (37, .ir [(true, 13), (true, 12)] flat_access_ir) ::
  (38, .ir [(true, 13), (true, 12)] flat_set_ir) ::
  (79, .ir [(true, 13), (false, 1)] flat_find_ir) ::
  (67, .ir [(true, 13), (false, 1)] flat_list_ir) ::
  (62, .ir [(true, 13), (false, 1), (false, 1)] flat_with_ir) ::
  (64, .ir [(true, 13), (true, 12)] flat_where_ir) ::
  (65, .ir [(true, 12)] flat_region_ir) ::
  (66, .ir [(false, 1)] api_Page__ir) ::
  (106, .ir [(true, 8)] flat_last_ir) ::
  (108, .ir [(false, 1), (false, 1), (false, 1)] flat_cut_ir) ::
  []
theorem TIrFl_ok : ∀ x ∈ TIrFl, Known gAll x.1 x.2 :=
  kcons flat_Tables_k <|
  kcons flat_create_k <|
  kcons flat_destroy_k <|
  kcons flat_change_k <|
  kcons flat_lay_k <|
  kcons flat_lift_k <|
  kcons flat_guard_k <|
  kcons flat_access_k <|
  kcons flat_set_k <|
  kcons flat_find_k <|
  kcons flat_list_k <|
  kcons flat_with_k <|
  kcons flat_where_k <|
  kcons flat_region_k <|
  kcons api_Page__k <|
  kcons flat_last_k <|
  kcons flat_cut_k <|
  fun _ h => nomatch h
end Go.Proofs.YtlihbielphcgbaaGreatDoor.Sx
