/-
  IRs of functions, printed by a program of mine (wip/tools/mkir.py, ev.run.lean); each is checked by the kernel against the executor.
-/
import Derived.Test.YtnlilhpkjlodjaaDoorYBf
import Derived.Test.YtnlilhpkjlodjaaDoorProg
namespace Go.Proofs.YtnlilhpkjlodjaaDoor.Sx
open Go
set_option maxRecDepth 100000
def inlenvIrTb : List FuncId :=
  46 ::
  []
def itsenvIrTb : List (FuncId × Shape) :=
  (73, [(false, 1), (true, 11)]) ::
  []
noncomputable def envIrTb : Env := { P := Tryd.prog, G := gAll, inl := inlenvIrTb, unr := [], ded := true, its := itsenvIrTb }
def atlaslaw19_awake_ir : IR :=
  (.call 21 [(true, [(.c (.i .u64 8192)), (.one [(.c (.i .u64 5)), (.c (.i .u64 7171))])]), (false, [(.c (.i .u64 0))]), (false, [(.c (.i .i64 0))]), (false, [(.c (.i .u64 0))])] [(false, 1)]
  (.call 29 [(true, [(.c (.i .u64 8192)), (.one [(.c (.i .u64 5)), (.c (.i .u64 7171))])]), (false, [(.c (.i .u64 0))]), (false, [(.c (.i .i64 0))]), (false, [(.c (.i .u64 24576))]), (false, [(.c (.i .i64 0))])] [(true, 13)]
  (.chk (.eqt false (.v 1) (.v 1)) (.chk (.eqt false (.v 2) (.v 2)) (.chk (.eqt true (.v 3) (.v 3)) (.chk (.eqt true (.v 4) (.v 4)) (.chk (.eqt true (.v 5) (.v 5)) (.chk (.eqt true (.v 6) (.v 6)) (.chk (.eqt true (.v 7) (.v 7)) (.chk (.eqt true (.v 8) (.v 8)) (.chk (.eqt true (.v 9) (.v 9)) (.chk (.eqt true (.v 10) (.v 10)) (.chk (.eqt false (.v 11) (.v 11)) (.chk (.eqt false (.v 12) (.v 12)) (.chk (.eqt false (.v 13) (.v 13)) (.call 30 [(true, [(.c (.i .u64 8192)), (.one [(.c (.i .u64 5)), (.c (.i .u64 7171))])]), (true, (vr 1 13)), (false, [(.c (.i .u64 24576))]), (true, [(.c (.b true)), (.c (.b false)), (.c (.b false)), (.c (.b true)), (.c (.b false)), (.c (.b false)), (.c (.b false)), (.c (.b false)), (.c (.i .u64 0)), (.c (.i .u64 0)), (.c (.i .u64 0))])] [(true, 2)]
  (.call 12 [(true, [(.c (.i .u64 8192)), (.one [(.c (.i .u64 5)), (.c (.i .u64 7171))])]), (true, [(.c (.i .u64 0)), (.c (.i .i64 1)), (.c (.i .u64 1))])] [(true, 2), (true, 3), (false, 1), (false, 1)]
  (.call 12 [(true, [(.c (.i .u64 8192)), (.one [(.c (.i .u64 5)), (.c (.i .u64 7171))])]), (true, [(.v 18), (.v 19), (.v 20)])] [(true, 2), (true, 3), (false, 1), (false, 1)]
  (.call 16 [(true, [(.c (.i .u64 8192)), (.one [(.c (.i .u64 5)), (.c (.i .u64 7171))])]), (true, [(.v 18), (.v 19), (.v 20)]), (false, [(.c (.i .u64 0))])] [(true, 2), (true, 3)]
  (.lt (.len (.v 0)) (.lt (.bin .eql (.v 35) (.c (.i .i64 1))) (.ite (.v 36)
  (.chk (.inb (.v 0) (.c (.i .i64 0)) 8) (.lt (.ite (.eqt false (.idx (.v 0) (.c (.i .i64 0)) 0) (.c (.i .u64 20480))) (.ite (.eqt false (.idx (.v 0) (.c (.i .i64 0)) 1) (.c (.i .u64 28672))) (.ite (.eqt false (.idx (.v 0) (.c (.i .i64 0)) 2) (.c (.i .i64 0))) (.ite (.eqt true (.idx (.v 0) (.c (.i .i64 0)) 3) (.c (.b true))) (.ite (.eqt true (.idx (.v 0) (.c (.i .i64 0)) 4) (.c (.b false))) (.ite (.eqt true (.idx (.v 0) (.c (.i .i64 0)) 5) (.c (.b false))) (.ite (.eqt true (.idx (.v 0) (.c (.i .i64 0)) 6) (.c (.b false))) (.ite (.eqt true (.idx (.v 0) (.c (.i .i64 0)) 7) (.c (.b false))) (.c (.b true)) (.c (.b false))) (.c (.b false))) (.c (.b false))) (.c (.b false))) (.c (.b false))) (.c (.b false))) (.c (.b false))) (.c (.b false))) (.ite (.v 37)
  (.lt (.ite (.eqt false (.v 1) (.c (.i .u64 0))) (.ite (.eqt false (.v 2) (.c (.i .i64 0))) (.ite (.eqt true (.v 3) (.c (.b false))) (.ite (.eqt true (.v 4) (.c (.b false))) (.ite (.eqt true (.v 5) (.c (.b false))) (.ite (.eqt true (.v 6) (.c (.b false))) (.ite (.eqt true (.v 7) (.c (.b false))) (.ite (.eqt true (.v 8) (.c (.b false))) (.ite (.eqt true (.v 9) (.c (.b false))) (.ite (.eqt true (.v 10) (.c (.b false))) (.ite (.eqt false (.v 11) (.c (.i .u64 0))) (.ite (.eqt false (.v 12) (.c (.i .u64 0))) (.ite (.eqt false (.v 13) (.c (.i .u64 0))) (.c (.b true)) (.c (.b false))) (.c (.b false))) (.c (.b false))) (.c (.b false))) (.c (.b false))) (.c (.b false))) (.c (.b false))) (.c (.b false))) (.c (.b false))) (.c (.b false))) (.c (.b false))) (.c (.b false))) (.c (.b false))) (.ite (.v 38)
  (.lt (.len (.v 15)) (.lt (.bin .eql (.v 39) (.c (.i .i64 2))) (.ite (.v 40)
  (.lt (.len (.v 17)) (.lt (.bin .eql (.v 41) (.c (.i .i64 0))) (.ite (.v 42)
  (.lt (.bin .eql (.v 21) (.c (.i .u64 0))) (.ite (.v 43)
  (.lt (.bin .eql (.v 22) (.c (.i .i64 0))) (.ite (.v 44)
  (.lt (.bin .eql (.v 29) (.c (.i .i64 8))) (.ite (.v 45)
  (.lt (.len (.v 31)) (.lt (.bin .eql (.v 46) (.c (.i .i64 0))) (.ite (.v 47)
  (.lt (.bin .eql (.v 34) (.c (.i .u64 1))) (.ite (.v 48)
  (.call 18 [(true, [(.c (.i .u64 8192)), (.one [(.c (.i .u64 5)), (.c (.i .u64 7171))])]), (false, [(.c (.i .u64 1))])] [(false, 1)]
  (.chk (.eqt true (.v 49) (.v 49)) (.ite (.v 49)
  (.call 18 [(true, [(.c (.i .u64 8192)), (.one [(.c (.i .u64 5)), (.c (.i .u64 7171))])]), (false, [(.c (.i .u64 0))])] [(false, 1)]
  (.chk (.eqt true (.v 50) (.v 50)) (.lt (.un .not (.v 50)) (.ite (.v 51)
  (.call 37 [(true, [(.c (.i .u64 8192)), (.one [(.c (.i .u64 5)), (.c (.i .u64 7171))])]), (false, [(.c (.i .u64 0))]), (false, [(.c (.i .i64 0))])] [(false, 1)]
  (.call 38 [(false, [(.v 52)]), (false, [(.one [(.c (.i .u64 0))])])] [(false, 1)]
  (.chk (.eqt true (.v 53) (.v 53)) (.ret [(false, [(.v 53)])]))))
  (.ret [(false, [(.c (.b false))])])))))
  (.ret [(false, [(.c (.b false))])]))))
  (.ret [(false, [(.c (.b false))])])))
  (.ret [(false, [(.c (.b false))])]))))
  (.ret [(false, [(.c (.b false))])])))
  (.ret [(false, [(.c (.b false))])])))
  (.ret [(false, [(.c (.b false))])])))
  (.ret [(false, [(.c (.b false))])]))))
  (.ret [(false, [(.c (.b false))])]))))
  (.ret [(false, [(.c (.b false))])])))
  (.ret [(false, [(.c (.b false))])]))))
  (.ret [(false, [(.c (.b false))])])))))))))))))))))))))))
theorem atlaslaw19_awake_c : compile envIrTb 3000 8 = .ok atlaslaw19_awake_ir := by kernel_rfl
theorem atlaslaw19_awake_p : paramShape Tryd.prog 8 = some [] := by kernel_rfl
def atlasref04_Right_ir : IR :=
  (.lt (.bin .lss (.v 1) (.c (.i .i64 0))) (.ite (.v 3)
  (.ret [(false, [(.c (.b false))])])
  (.lt (.bin .gtr (.v 1) (.c (.i .i64 64))) (.ite (.v 4)
  (.ret [(false, [(.c (.b false))])])
  (.lt (.bin .gtr (.v 0) (.c (.i .u64 268435456))) (.ite (.v 5)
  (.ret [(false, [(.c (.b false))])])
  (.loop [(.c (.b false)), (.v 1)]
  (.lt (.bin .lss (.v 7) (.c (.i .i64 64))) (.ite (.v 8)
  (.call 39 [(false, [(.v 2)]), (false, [(.v 7)])] [(false, 1)]
  (.ite (.v 9)
  (.ret [(false, [(.c (.b false))])])
  (.lt (.bin .add (.v 7) (.c (.i .i64 1))) (.cont 0 [(.v 6), (.v 10)]))))
  (.ret [(false, [(.c (.b true))])]))))))))))
theorem atlasref04_Right_c : compile envIrTb 3000 11 = .ok atlasref04_Right_ir := by kernel_rfl
theorem atlasref04_Right_p : paramShape Tryd.prog 11 = some [(true, 3)] := by kernel_rfl
theorem atlasref04_Right_k : Known gAll 11 (.ir [(true, 3)] atlasref04_Right_ir) := known_ir (E := envIrTb) (n := 3000) rfl rfl atlasref04_Right_c atlasref04_Right_p
def table_Fresh_ir : IR :=
  (.call 40 [(true, [(.v 2), (.v 3), (.v 4)])] [(true, 3), (false, 1), (false, 1)]
  (.lt (.bin .neq (.v 9) (.c (.i .i64 0))) (.ite (.v 10)
  (.ret [(true, [(.v 0), (.v 1)]), (true, [(.v 2), (.v 3), (.v 4)]), (false, [(.c (.i .u64 0))]), (false, [(.v 9)])])
  (.call 41 [(true, [(.v 0), (.v 1)]), (false, [(.v 8)])] [(true, 2)]
  (.ret [(true, [(.v 11), (.v 12)]), (true, [(.v 5), (.v 6), (.v 7)]), (false, [(.v 8)]), (false, [(.c (.i .i64 0))])])))))
theorem table_Fresh_c : compile envIrTb 3000 12 = .ok table_Fresh_ir := by kernel_rfl
theorem table_Fresh_p : paramShape Tryd.prog 12 = some [(true, 2), (true, 3)] := by kernel_rfl
theorem table_Fresh_k : Known gAll 12 (.ir [(true, 2), (true, 3)] table_Fresh_ir) := known_ir (E := envIrTb) (n := 3000) rfl rfl table_Fresh_c table_Fresh_p
def atlasref19_Fresh_ir : IR :=
  (.call 42 [(true, [(.v 2), (.v 3), (.v 4)])] [(true, 3), (false, 1), (false, 1)]
  (.lt (.bin .neq (.v 9) (.c (.i .i64 0))) (.ite (.v 10)
  (.ret [(true, [(.v 0), (.v 1)]), (true, [(.v 2), (.v 3), (.v 4)]), (false, [(.c (.i .u64 0))]), (false, [(.v 9)])])
  (.lt (.bin .mul (.c (.i .u64 4096)) (.v 8)) (.call 43 [(true, [(.v 0), (.v 1)]), (false, [(.v 11)]), (false, [(.c (.i .u64 4096))])] [(true, 2)]
  (.ret [(true, [(.v 12), (.v 13)]), (true, [(.v 5), (.v 6), (.v 7)]), (false, [(.v 8)]), (false, [(.c (.i .i64 0))])]))))))
theorem atlasref19_Fresh_c : compile envIrTb 3000 13 = .ok atlasref19_Fresh_ir := by kernel_rfl
theorem atlasref19_Fresh_p : paramShape Tryd.prog 13 = some [(true, 2), (true, 3)] := by kernel_rfl
theorem atlasref19_Fresh_k : Known gAll 13 (.ir [(true, 2), (true, 3)] atlasref19_Fresh_ir) := known_ir (E := envIrTb) (n := 3000) rfl rfl atlasref19_Fresh_c atlasref19_Fresh_p
def atlasref04_Is_ir : IR :=
  (.loop [(.c (.b false)), (.c (.i .i64 0))]
  (.lt (.bin .lss (.v 5) (.v 1)) (.ite (.v 6)
  (.lt (.cv .u64 (.v 5)) (.lt (.bin .add (.v 0) (.v 7)) (.lt (.bin .eql (.v 8) (.v 3)) (.ite (.v 9)
  (.call 39 [(false, [(.v 2)]), (false, [(.v 5)])] [(false, 1)]
  (.lt (.un .not (.v 10)) (.ret [(false, [(.v 11)])])))
  (.lt (.bin .add (.v 5) (.c (.i .i64 1))) (.cont 0 [(.v 4), (.v 10)]))))))
  (.ret [(false, [(.c (.b false))])]))))
theorem atlasref04_Is_c : compile envIrTb 3000 15 = .ok atlasref04_Is_ir := by kernel_rfl
theorem atlasref04_Is_p : paramShape Tryd.prog 15 = some [(true, 3), (false, 1)] := by kernel_rfl
theorem atlasref04_Is_k : Known gAll 15 (.ir [(true, 3), (false, 1)] atlasref04_Is_ir) := known_ir (E := envIrTb) (n := 3000) rfl rfl atlasref04_Is_c atlasref04_Is_p
def table_Back_ir : IR :=
  (.call 44 [(true, [(.v 2), (.v 3), (.v 4)]), (false, [(.v 5)])] [(true, 3), (false, 1)]
  (.call 41 [(true, [(.v 0), (.v 1)]), (false, [(.v 5)])] [(true, 2)]
  (.ret [(true, [(.v 10), (.v 11)]), (true, [(.v 6), (.v 7), (.v 8)])])))
theorem table_Back_c : compile envIrTb 3000 16 = .ok table_Back_ir := by kernel_rfl
theorem table_Back_p : paramShape Tryd.prog 16 = some [(true, 2), (true, 3), (false, 1)] := by kernel_rfl
theorem table_Back_k : Known gAll 16 (.ir [(true, 2), (true, 3), (false, 1)] table_Back_ir) := known_ir (E := envIrTb) (n := 3000) rfl rfl table_Back_c table_Back_p
def atlasref19_Back_ir : IR :=
  (.call 45 [(true, [(.v 2), (.v 3), (.v 4)]), (false, [(.v 5)])] [(true, 3), (false, 1)]
  (.lt (.bin .mul (.c (.i .u64 4096)) (.v 5)) (.call 43 [(true, [(.v 0), (.v 1)]), (false, [(.v 10)]), (false, [(.c (.i .u64 4096))])] [(true, 2)]
  (.ret [(true, [(.v 11), (.v 12)]), (true, [(.v 6), (.v 7), (.v 8)])]))))
theorem atlasref19_Back_c : compile envIrTb 3000 17 = .ok atlasref19_Back_ir := by kernel_rfl
theorem atlasref19_Back_p : paramShape Tryd.prog 17 = some [(true, 2), (true, 3), (false, 1)] := by kernel_rfl
theorem atlasref19_Back_k : Known gAll 17 (.ir [(true, 2), (true, 3), (false, 1)] atlasref19_Back_ir) := known_ir (E := envIrTb) (n := 3000) rfl rfl atlasref19_Back_c atlasref19_Back_p
def table_Empty_ir : IR :=
  (.call (itOff + 73) [(false, [(.c (.i .i64 2))]), (false, [(.c (.b false)), (.c (.i .i64 1)), (.c (.b true)), (.c (.i .i64 11))]), (true, [(.v 0), (.v 1)]), (true, [(.v 2)])] [(false, 1)]
  (.loop [(.c (.i .i64 0))]
  (.ite (.bin .lss (.v 4) (.len (.v 3)))
  (.ret [(false, [(.c (.b false))])])
  (.ret [(false, [(.c (.b true))])]))))
theorem table_Empty_c : compile envIrTb 3000 18 = .ok table_Empty_ir := by kernel_rfl
theorem table_Empty_p : paramShape Tryd.prog 18 = some [(true, 2), (false, 1)] := by kernel_rfl
theorem table_Empty_k : Known gAll 18 (.ir [(true, 2), (false, 1)] table_Empty_ir) := known_ir (E := envIrTb) (n := 3000) rfl rfl table_Empty_c table_Empty_p
def atlaslaw19_fits_ir : IR :=
  (.call 9 [(true, [(.v 0), (.v 1)])] [(false, 1)]
  (.lt (.un .not (.v 4)) (.ite (.v 5)
  (.ret [(false, [(.c (.b false))])])
  (.call 10 [(true, [(.v 0), (.v 1)])] [(false, 1)]
  (.lt (.un .not (.v 6)) (.ite (.v 7)
  (.ret [(false, [(.c (.b false))])])
  (.call 47 [(true, [(.v 0), (.v 1)]), (false, [(.v 2)]), (false, [(.v 3)]), (false, [(.c (.sl 0 []))])] [(false, 1), (false, 1)]
  (.ret [(false, [(.v 9)])]))))))))
theorem atlaslaw19_fits_c : compile envIrTb 3000 19 = .ok atlaslaw19_fits_ir := by kernel_rfl
theorem atlaslaw19_fits_p : paramShape Tryd.prog 19 = some [(true, 2), (false, 1), (false, 1)] := by kernel_rfl
theorem atlaslaw19_fits_k : Known gAll 19 (.ir [(true, 2), (false, 1), (false, 1)] atlaslaw19_fits_ir) := known_ir (E := envIrTb) (n := 3000) rfl rfl atlaslaw19_fits_c atlaslaw19_fits_p
def table_Pages_ir : IR :=
  (.call (itOff + 73) [(false, [(.c (.i .i64 2))]), (false, [(.c (.b false)), (.c (.i .i64 1)), (.c (.b true)), (.c (.i .i64 11))]), (true, [(.v 0), (.v 1)]), (true, [(.v 2)])] [(false, 1)]
  (.loop [(.c (.sl 0 [])), (.c (.i .i64 0))]
  (.ite (.bin .lss (.v 7) (.len (.v 5)))
  (.lt (.cv .u64 (.idx (.v 5) (.v 7) 0)) (.call 48 [(false, [(.v 3)])] [(false, 1)]
  (.lt (.bin .mul (.v 8) (.v 9)) (.lt (.bin .add (.v 4) (.v 10)) (.call 49 [(true, (idr (.v 5) (.v 7) 1 11)), (false, [(.v 3)])] [(false, 1)]
  (.ite (.v 12)
  (.cont 0 [(.v 6), (.bin .add (.v 7) (.c (.i .i64 1)))])
  (.call 50 [(true, (idr (.v 5) (.v 7) 1 11))] [(false, 1)]
  (.ite (.v 13)
  (.call 52 [(false, [(.v 11)])] [(false, 1)]
  (.call 51 [(false, [(.v 14)])] [(false, 1)]
  (.lt (.bin .mul (.idx (.v 5) (.v 7) 10) (.c (.i .u64 4096))) (.call 53 [(true, (idr (.v 5) (.v 7) 1 11))] [(true, 4)]
  (.chk (.room (.len (.app 8 (.v 6) (.one ([(.v 15), (.v 16), (.v 3)] ++ vr 17 4 ++ [(.idx (.v 5) (.v 7) 8)])))) 33) (.cont 0 [(.app 8 (.v 6) (.one ([(.v 15), (.v 16), (.v 3)] ++ vr 17 4 ++ [(.idx (.v 5) (.v 7) 8)]))), (.bin .add (.v 7) (.c (.i .i64 1)))]))))))
  (.lt (.bin .sub (.v 3) (.c (.i .i64 1))) (.call 21 [(true, [(.v 0), (.v 1)]), (false, [(.idx (.v 5) (.v 7) 10)]), (false, [(.v 14)]), (false, [(.v 11)])] [(false, 1)]
  (.chk (.room (.len (.app 8 (.v 6) (.v 15))) 33) (.cont 0 [(.app 8 (.v 6) (.v 15)), (.bin .add (.v 7) (.c (.i .i64 1)))]))))))))))))
  (.ret [(false, [(.v 6)])]))))
theorem table_Pages_c : compile envIrTb 3000 21 = .ok table_Pages_ir := by kernel_rfl
theorem table_Pages_p : paramShape Tryd.prog 21 = some [(true, 2), (false, 1), (false, 1), (false, 1)] := by kernel_rfl
theorem table_Pages_k : Known gAll 21 (.ir [(true, 2), (false, 1), (false, 1), (false, 1)] table_Pages_ir) := known_ir (E := envIrTb) (n := 3000) rfl rfl table_Pages_c table_Pages_p
theorem table_Pages_n : compileN envIrTb 3000 21 = .ok table_Pages_ir := by kernel_rfl
def atlasref06_May_ir : IR :=
  (.lt (.bin .lss (.v 8) (.c (.i .u64 4))) (.ite (.v 11)
  (.lt (.bin .lss (.v 9) (.c (.i .u64 17592186044416))) (.ite (.v 12)
  (.lt (.bin .lss (.v 10) (.c (.i .u64 1024))) (.ret [(false, [(.v 13)])]))
  (.ret [(false, [(.c (.b false))])])))
  (.ret [(false, [(.c (.b false))])])))
theorem atlasref06_May_c : compile envIrTb 3000 27 = .ok atlasref06_May_ir := by kernel_rfl
theorem atlasref06_May_p : paramShape Tryd.prog 27 = some [(true, 11)] := by kernel_rfl
theorem atlasref06_May_k : Known gAll 27 (.ir [(true, 11)] atlasref06_May_ir) := known_ir (E := envIrTb) (n := 3000) rfl rfl atlasref06_May_c atlasref06_May_p
def table_Reach_ir : IR :=
  (.loop [(.v 2), (.v 3), (.c (.b false)), (.c (.b false)), (.c (.b false)), (.c (.b false)), (.c (.b false)), (.c (.b false)), (.c (.b false)), (.c (.b false)), (.c (.i .u64 0)), (.c (.i .u64 0)), (.c (.i .u64 0))]
  (.call 59 [(false, [(.v 4)]), (false, [(.v 7)])] [(false, 1)]
  (.call 58 [(true, [(.v 0), (.v 1)]), (false, [(.v 6)]), (false, [(.v 19)])] [(true, 11)]
  (.lt (.bin .gtr (.v 7) (.v 5)) (.ite (.v 31)
  (.call 60 [(true, (vr 20 11)), (false, [(.v 7)])] [(false, 1)]
  (.ite (.v 32)
  (.lt (.bin .sub (.v 7) (.c (.i .i64 1))) (.cont 0 ([(.v 29), (.v 33)] ++ vr 20 11)))
  (.ret [(true, ([(.v 6), (.v 7)] ++ vr 20 11))])))
  (.ret [(true, ([(.v 6), (.v 7)] ++ vr 20 11))]))))))
theorem table_Reach_c : compile envIrTb 3000 29 = .ok table_Reach_ir := by kernel_rfl
theorem table_Reach_p : paramShape Tryd.prog 29 = some [(true, 2), (false, 1), (false, 1), (false, 1), (false, 1)] := by kernel_rfl
theorem table_Reach_k : Known gAll 29 (.ir [(true, 2), (false, 1), (false, 1), (false, 1), (false, 1)] table_Reach_ir) := known_ir (E := envIrTb) (n := 3000) rfl rfl table_Reach_c table_Reach_p
def table_With_ir : IR :=
  (.call 61 [(true, (vr 16 11))] [(false, 1), (false, 1)]
  (.call 59 [(false, [(.v 15)]), (false, [(.v 3)])] [(false, 1)]
  (.call 63 [(false, [(.v 2)]), (false, [(.v 29)])] [(false, 1)]
  (.call 62 [(true, [(.v 0), (.v 1)]), (false, [(.v 30)]), (false, [(.c (.i .i64 8))]), (false, [(.v 27)])] [(true, 2), (false, 1)]
  (.ret [(true, [(.v 31), (.v 32)])])))))
theorem table_With_c : compile envIrTb 3000 30 = .ok table_With_ir := by kernel_rfl
theorem table_With_p : paramShape Tryd.prog 30 = some [(true, 2), (true, 13), (false, 1), (true, 11)] := by kernel_rfl
theorem table_With_k : Known gAll 30 (.ir [(true, 2), (true, 13), (false, 1), (true, 11)] table_With_ir) := known_ir (E := envIrTb) (n := 3000) rfl rfl table_With_c table_With_p
def atlasref19_Reach_ir : IR :=
  (.call 31 [(false, [(.v 4)]), (false, [(.v 3)])] [(false, 1)]
  (.call 64 [(true, [(.v 0), (.v 1)]), (false, [(.v 2)]), (false, [(.v 6)])] [(true, 11)]
  (.lt (.bin .gtr (.v 3) (.v 5)) (.ite (.v 18)
  (.call 65 [(true, (vr 7 11)), (false, [(.v 3)])] [(false, 1)]
  (.ite (.v 19)
  (.lt (.bin .sub (.v 3) (.c (.i .i64 1))) (.call 32 [(true, [(.v 0), (.v 1)]), (false, [(.v 16)]), (false, [(.v 20)]), (false, [(.v 4)]), (false, [(.v 5)])] [(true, 13)]
  (.ret [(true, (vr 21 13))])))
  (.ret [(true, ([(.v 2), (.v 3)] ++ vr 7 11))])))
  (.ret [(true, ([(.v 2), (.v 3)] ++ vr 7 11))])))))
theorem atlasref19_Reach_c : compile envIrTb 3000 32 = .ok atlasref19_Reach_ir := by kernel_rfl
theorem atlasref19_Reach_p : paramShape Tryd.prog 32 = some [(true, 2), (false, 1), (false, 1), (false, 1), (false, 1)] := by kernel_rfl
theorem atlasref19_Reach_k : Known gAll 32 (.ir [(true, 2), (false, 1), (false, 1), (false, 1), (false, 1)] atlasref19_Reach_ir) := known_ir (E := envIrTb) (n := 3000) rfl rfl atlasref19_Reach_c atlasref19_Reach_p
def atlasref19_Same_ir : IR :=
  (.lt (.len (.v 0)) (.lt (.len (.v 1)) (.lt (.bin .neq (.v 2) (.v 3)) (.ite (.v 4)
  (.ret [(false, [(.c (.b false))])])
  (.loop [(.c (.b false)), (.c (.i .i64 0))]
  (.lt (.len (.v 0)) (.lt (.bin .lss (.v 6) (.v 7)) (.ite (.v 8)
  (.chk (.inb (.v 0) (.v 6) 8) (.chk (.inb (.v 1) (.v 6) 8) (.lt (.un .not (.ite (.eqt false (.idx (.v 0) (.v 6) 0) (.idx (.v 1) (.v 6) 0)) (.ite (.eqt false (.idx (.v 0) (.v 6) 1) (.idx (.v 1) (.v 6) 1)) (.ite (.eqt false (.idx (.v 0) (.v 6) 2) (.idx (.v 1) (.v 6) 2)) (.ite (.eqt true (.idx (.v 0) (.v 6) 3) (.idx (.v 1) (.v 6) 3)) (.ite (.eqt true (.idx (.v 0) (.v 6) 4) (.idx (.v 1) (.v 6) 4)) (.ite (.eqt true (.idx (.v 0) (.v 6) 5) (.idx (.v 1) (.v 6) 5)) (.ite (.eqt true (.idx (.v 0) (.v 6) 6) (.idx (.v 1) (.v 6) 6)) (.ite (.eqt true (.idx (.v 0) (.v 6) 7) (.idx (.v 1) (.v 6) 7)) (.c (.b true)) (.c (.b false))) (.c (.b false))) (.c (.b false))) (.c (.b false))) (.c (.b false))) (.c (.b false))) (.c (.b false))) (.c (.b false)))) (.ite (.v 9)
  (.ret [(false, [(.c (.b false))])])
  (.lt (.bin .add (.v 6) (.c (.i .i64 1))) (.cont 0 [(.v 5), (.v 10)]))))))
  (.ret [(false, [(.c (.b true))])])))))))))
theorem atlasref19_Same_c : compile envIrTb 3000 33 = .ok atlasref19_Same_ir := by kernel_rfl
theorem atlasref19_Same_p : paramShape Tryd.prog 33 = some [(false, 1), (false, 1)] := by kernel_rfl
theorem atlasref19_Same_k : Known gAll 33 (.ir [(false, 1), (false, 1)] atlasref19_Same_ir) := known_ir (E := envIrTb) (n := 3000) rfl rfl atlasref19_Same_c atlasref19_Same_p
def atlasref19_Pages_ir : IR :=
  (.loop [(.c (.i .i64 0)), (.c (.sl 0 []))]
  (.lt (.bin .lss (.v 5) (.c (.i .i64 512))) (.ite (.v 7)
  (.call 64 [(true, [(.v 0), (.v 1)]), (false, [(.v 2)]), (false, [(.v 5)])] [(true, 11)]
  (.lt (.cv .u64 (.v 5)) (.call 23 [(false, [(.v 3)])] [(false, 1)]
  (.lt (.bin .mul (.v 19) (.v 20)) (.lt (.bin .add (.v 4) (.v 21)) (.call 36 [(true, (vr 8 11)), (false, [(.v 3)])] [(false, 1)]
  (.ite (.v 23)
  (.lt (.bin .add (.v 5) (.c (.i .i64 1))) (.cont 0 [(.v 24), (.v 6)]))
  (.call 57 [(true, (vr 8 11))] [(false, 1)]
  (.ite (.v 24)
  (.call 67 [(false, [(.v 22)])] [(false, 1)]
  (.call 66 [(false, [(.v 25)])] [(false, 1)]
  (.lt (.bin .mul (.c (.i .u64 4096)) (.v 17)) (.call 26 [(true, (vr 8 11))] [(true, 4)]
  (.chk (.room (.len (.app 8 (.v 6) (.one ([(.v 26), (.v 27), (.v 3)] ++ vr 28 4 ++ [(.v 15)])))) 33) (.lt (.bin .add (.v 5) (.c (.i .i64 1))) (.cont 0 [(.v 32), (.app 8 (.v 6) (.one ([(.v 26), (.v 27), (.v 3)] ++ vr 28 4 ++ [(.v 15)])))])))))))
  (.lt (.bin .sub (.v 3) (.c (.i .i64 1))) (.call 34 [(true, [(.v 0), (.v 1)]), (false, [(.v 17)]), (false, [(.v 25)]), (false, [(.v 22)])] [(false, 1)]
  (.chk (.room (.len (.app 8 (.v 6) (.v 26))) 33) (.lt (.bin .add (.v 5) (.c (.i .i64 1))) (.cont 0 [(.v 27), (.app 8 (.v 6) (.v 26))]))))))))))))))
  (.ret [(false, [(.v 6)])]))))
theorem atlasref19_Pages_c : compile envIrTb 3000 34 = .ok atlasref19_Pages_ir := by kernel_rfl
theorem atlasref19_Pages_p : paramShape Tryd.prog 34 = some [(true, 2), (false, 1), (false, 1), (false, 1)] := by kernel_rfl
theorem atlasref19_Pages_k : Known gAll 34 (.ir [(true, 2), (false, 1), (false, 1), (false, 1)] atlasref19_Pages_ir) := known_ir (E := envIrTb) (n := 3000) rfl rfl atlasref19_Pages_c atlasref19_Pages_p
def atlasref06_Make_ir : IR :=
  (.ret [(true, ([(.c (.b true))] ++ vr 1 5 ++ [(.c (.b false)), (.c (.b false)), (.c (.i .u64 0)), (.v 0), (.c (.i .u64 0))]))])
theorem atlasref06_Make_c : compile envIrTb 3000 35 = .ok atlasref06_Make_ir := by kernel_rfl
theorem atlasref06_Make_p : paramShape Tryd.prog 35 = some [(false, 1), (true, 4), (false, 1)] := by kernel_rfl
theorem atlasref06_Make_k : Known gAll 35 (.ir [(false, 1), (true, 4), (false, 1)] atlasref06_Make_ir) := known_ir (E := envIrTb) (n := 3000) rfl rfl atlasref06_Make_c atlasref06_Make_p
def table_Frames_ir : IR :=
  (.call (itOff + 73) [(false, [(.c (.i .i64 2))]), (false, [(.c (.b false)), (.c (.i .i64 1)), (.c (.b true)), (.c (.i .i64 11))]), (true, [(.v 0), (.v 1)]), (true, [(.v 2)])] [(false, 1)]
  (.loop [(.one [(.v 2)]), (.c (.i .i64 0))]
  (.ite (.bin .lss (.v 6) (.len (.v 4)))
  (.call 60 [(true, (idr (.v 4) (.v 6) 1 11)), (false, [(.v 3)])] [(false, 1)]
  (.ite (.v 7)
  (.lt (.bin .sub (.v 3) (.c (.i .i64 1))) (.call 37 [(true, [(.v 0), (.v 1)]), (false, [(.idx (.v 4) (.v 6) 10)]), (false, [(.v 8)])] [(false, 1)]
  (.chk (.room (.len (.app 1 (.v 5) (.v 9))) 9) (.cont 0 [(.app 1 (.v 5) (.v 9)), (.bin .add (.v 6) (.c (.i .i64 1)))]))))
  (.cont 0 [(.v 5), (.bin .add (.v 6) (.c (.i .i64 1)))])))
  (.ret [(false, [(.v 5)])]))))
theorem table_Frames_c : compile envIrTb 3000 37 = .ok table_Frames_ir := by kernel_rfl
theorem table_Frames_p : paramShape Tryd.prog 37 = some [(true, 2), (false, 1), (false, 1)] := by kernel_rfl
theorem table_Frames_k : Known gAll 37 (.ir [(true, 2), (false, 1), (false, 1)] table_Frames_ir) := known_ir (E := envIrTb) (n := 3000) rfl rfl table_Frames_c table_Frames_p
def atlasref19_Ints_ir : IR :=
  (.lt (.len (.v 0)) (.lt (.len (.v 1)) (.lt (.bin .neq (.v 2) (.v 3)) (.ite (.v 4)
  (.ret [(false, [(.c (.b false))])])
  (.loop [(.c (.b false)), (.c (.i .i64 0))]
  (.lt (.len (.v 0)) (.lt (.bin .lss (.v 6) (.v 7)) (.ite (.v 8)
  (.chk (.inb (.v 0) (.v 6) 1) (.chk (.inb (.v 1) (.v 6) 1) (.lt (.bin .neq (.idx (.v 0) (.v 6) 0) (.idx (.v 1) (.v 6) 0)) (.ite (.v 9)
  (.ret [(false, [(.c (.b false))])])
  (.lt (.bin .add (.v 6) (.c (.i .i64 1))) (.cont 0 [(.v 5), (.v 10)]))))))
  (.ret [(false, [(.c (.b true))])])))))))))
theorem atlasref19_Ints_c : compile envIrTb 3000 38 = .ok atlasref19_Ints_ir := by kernel_rfl
theorem atlasref19_Ints_p : paramShape Tryd.prog 38 = some [(false, 1), (false, 1)] := by kernel_rfl
theorem atlasref19_Ints_k : Known gAll 38 (.ir [(false, 1), (false, 1)] atlasref19_Ints_ir) := known_ir (E := envIrTb) (n := 3000) rfl rfl atlasref19_Ints_c atlasref19_Ints_p
def pool_Take_ir : IR :=
  (.lt (.ite (.eqt false (.v 0) (.v 0)) (.ite (.eqt false (.v 1) (.v 1)) (.ite (.eqt false (.v 2) (.c (.i .u64 0))) (.c (.b true)) (.c (.b false))) (.c (.b false))) (.c (.b false))) (.ite (.v 3)
  (.ret [(true, [(.v 0), (.v 1), (.v 2)]), (false, [(.c (.i .u64 0))]), (false, [(.c (.i .i64 8))])])
  (.call 68 [(false, [(.v 2)])] [(false, 1)]
  (.call 69 [(false, [(.v 2)]), (false, [(.v 4)]), (false, [(.c (.i .i64 1))]), (false, [(.c (.i .u64 0))])] [(false, 1)]
  (.lt (.cv .u64 (.v 4)) (.lt (.bin .add (.v 0) (.v 6)) (.ret [(true, [(.v 0), (.v 1), (.v 5)]), (false, [(.v 7)]), (false, [(.c (.i .i64 0))])])))))))
theorem pool_Take_c : compile envIrTb 3000 40 = .ok pool_Take_ir := by kernel_rfl
theorem pool_Take_p : paramShape Tryd.prog 40 = some [(true, 3)] := by kernel_rfl
theorem pool_Take_k : Known gAll 40 (.ir [(true, 3)] pool_Take_ir) := known_ir (E := envIrTb) (n := 3000) rfl rfl pool_Take_c pool_Take_p
def table_clear_ir : IR :=
  (.lt (.bin .mul (.v 2) (.c (.i .u64 4096))) (.call 70 [(true, [(.v 0), (.v 1)]), (false, [(.v 3)]), (false, [(.c (.i .u64 4096))])] [(true, 2)]
  (.ret [(true, [(.v 4), (.v 5)])])))
theorem table_clear_c : compile envIrTb 3000 41 = .ok table_clear_ir := by kernel_rfl
theorem table_clear_p : paramShape Tryd.prog 41 = some [(true, 2), (false, 1)] := by kernel_rfl
theorem table_clear_k : Known gAll 41 (.ir [(true, 2), (false, 1)] table_clear_ir) := known_ir (E := envIrTb) (n := 3000) rfl rfl table_clear_c table_clear_p
def atlasref04_Take_ir : IR :=
  (.loop [(.c (.i .u64 0)), (.c (.i .i64 0)), (.c (.i .i64 0))]
  (.lt (.bin .lss (.v 5) (.v 1)) (.ite (.v 6)
  (.call 39 [(false, [(.v 2)]), (false, [(.v 5)])] [(false, 1)]
  (.ite (.v 7)
  (.call 71 [(false, [(.v 2)]), (false, [(.v 5)]), (false, [(.c (.i .i64 1))]), (false, [(.c (.i .u64 0))])] [(false, 1)]
  (.lt (.cv .u64 (.v 5)) (.lt (.bin .add (.v 0) (.v 9)) (.ret [(true, [(.v 0), (.v 1), (.v 8)]), (false, [(.v 10)]), (false, [(.c (.i .i64 0))])]))))
  (.lt (.bin .add (.v 5) (.c (.i .i64 1))) (.cont 0 [(.v 3), (.v 4), (.v 8)]))))
  (.ret [(true, [(.v 0), (.v 1), (.v 2)]), (false, [(.c (.i .u64 0))]), (false, [(.c (.i .i64 8))])]))))
theorem atlasref04_Take_c : compile envIrTb 3000 42 = .ok atlasref04_Take_ir := by kernel_rfl
theorem atlasref04_Take_p : paramShape Tryd.prog 42 = some [(true, 3)] := by kernel_rfl
theorem atlasref04_Take_k : Known gAll 42 (.ir [(true, 3)] atlasref04_Take_ir) := known_ir (E := envIrTb) (n := 3000) rfl rfl atlasref04_Take_c atlasref04_Take_p
def pool_Give_ir : IR :=
  (.call 72 [(true, [(.v 0), (.v 1), (.v 2)]), (false, [(.v 3)])] [(false, 1)]
  (.lt (.un .not (.v 4)) (.ite (.v 5)
  (.ret [(true, [(.v 0), (.v 1), (.v 2)]), (false, [(.c (.i .i64 1))])])
  (.lt (.bin .sub (.v 3) (.v 0)) (.lt (.cv .i64 (.v 6)) (.call 69 [(false, [(.v 2)]), (false, [(.v 7)]), (false, [(.c (.i .i64 1))]), (false, [(.c (.i .u64 1))])] [(false, 1)]
  (.ret [(true, [(.v 0), (.v 1), (.v 8)]), (false, [(.c (.i .i64 0))])])))))))
theorem pool_Give_c : compile envIrTb 3000 44 = .ok pool_Give_ir := by kernel_rfl
theorem pool_Give_p : paramShape Tryd.prog 44 = some [(true, 3), (false, 1)] := by kernel_rfl
theorem pool_Give_k : Known gAll 44 (.ir [(true, 3), (false, 1)] pool_Give_ir) := known_ir (E := envIrTb) (n := 3000) rfl rfl pool_Give_c pool_Give_p
def atlasref04_Give_ir : IR :=
  (.call 15 [(true, [(.v 0), (.v 1), (.v 2)]), (false, [(.v 3)])] [(false, 1)]
  (.lt (.un .not (.v 4)) (.ite (.v 5)
  (.ret [(true, [(.v 0), (.v 1), (.v 2)]), (false, [(.c (.i .i64 1))])])
  (.lt (.bin .sub (.v 3) (.v 0)) (.lt (.cv .i64 (.v 6)) (.call 71 [(false, [(.v 2)]), (false, [(.v 7)]), (false, [(.c (.i .i64 1))]), (false, [(.c (.i .u64 1))])] [(false, 1)]
  (.ret [(true, [(.v 0), (.v 1), (.v 8)]), (false, [(.c (.i .i64 0))])])))))))
theorem atlasref04_Give_c : compile envIrTb 3000 45 = .ok atlasref04_Give_ir := by kernel_rfl
theorem atlasref04_Give_p : paramShape Tryd.prog 45 = some [(true, 3), (false, 1)] := by kernel_rfl
theorem atlasref04_Give_k : Known gAll 45 (.ir [(true, 3), (false, 1)] atlasref04_Give_ir) := known_ir (E := envIrTb) (n := 3000) rfl rfl atlasref04_Give_c atlasref04_Give_p
def atlasref19_Right_ir : IR :=
  (.lt (.bin .lss (.v 3) (.c (.i .i64 0))) (.ite (.v 5)
  (.ret [(false, [(.v 4)]), (false, [(.c (.b false))])])
  (.lt (.bin .gtr (.v 3) (.c (.i .i64 2))) (.ite (.v 6)
  (.ret [(false, [(.v 4)]), (false, [(.c (.b false))])])
  (.lt (.bin .quo (.v 0) (.c (.i .u64 4096))) (.lt (.bin .geq (.v 2) (.v 7)) (.ite (.v 8)
  (.ret [(false, [(.v 4)]), (false, [(.c (.b false))])])
  (.lt (.len (.v 4)) (.lt (.bin .geq (.v 9) (.c (.i .i64 64))) (.ite (.v 10)
  (.ret [(false, [(.v 4)]), (false, [(.c (.b false))])])
  (.loop [(.c (.b false)), (.c (.i .i64 0))]
  (.lt (.len (.v 4)) (.lt (.bin .lss (.v 12) (.v 13)) (.ite (.v 14)
  (.chk (.inb (.v 4) (.v 12) 1) (.lt (.bin .eql (.idx (.v 4) (.v 12) 0) (.v 2)) (.ite (.v 15)
  (.ret [(false, [(.v 4)]), (false, [(.c (.b false))])])
  (.lt (.bin .add (.v 12) (.c (.i .i64 1))) (.cont 0 [(.v 11), (.v 16)])))))
  (.chk (.room (.len (.app 1 (.c (.sl 1 [])) (.v 4))) 9) (.chk (.room (.len (.app 1 (.app 1 (.c (.sl 1 [])) (.v 4)) (.one [(.v 2)]))) 9) (.loop [(.app 1 (.app 1 (.c (.sl 1 [])) (.v 4)) (.one [(.v 2)])), (.v 11), (.c (.i .i64 0))]
  (.lt (.bin .lss (.v 17) (.c (.i .i64 512))) (.ite (.v 18)
  (.call 64 [(true, [(.v 0), (.v 1)]), (false, [(.v 2)]), (false, [(.v 17)])] [(true, 11)]
  (.call 65 [(true, (vr 19 11)), (false, [(.v 3)])] [(false, 1)]
  (.ite (.v 30)
  (.lt (.bin .sub (.v 3) (.c (.i .i64 1))) (.call 47 [(true, [(.v 0), (.v 1)]), (false, [(.v 28)]), (false, [(.v 31)]), (false, [(.v 15)])] [(false, 1), (false, 1)]
  (.lt (.un .not (.v 33)) (.ite (.v 34)
  (.ret [(false, [(.v 32)]), (false, [(.c (.b false))])])
  (.lt (.bin .add (.v 17) (.c (.i .i64 1))) (.cont 1 [(.v 32), (.v 16), (.v 35)]))))))
  (.lt (.bin .add (.v 17) (.c (.i .i64 1))) (.cont 1 [(.v 15), (.v 16), (.v 31)])))))
  (.ret [(false, [(.v 15)]), (false, [(.c (.b true))])]))))))))))))))))))))
theorem atlasref19_Right_c : compile envIrTb 3000 47 = .ok atlasref19_Right_ir := by kernel_rfl
theorem atlasref19_Right_p : paramShape Tryd.prog 47 = some [(true, 2), (false, 1), (false, 1), (false, 1)] := by kernel_rfl
theorem atlasref19_Right_k : Known gAll 47 (.ir [(true, 2), (false, 1), (false, 1), (false, 1)] atlasref19_Right_ir) := known_ir (E := envIrTb) (n := 3000) rfl rfl atlasref19_Right_c atlasref19_Right_p
def table_at_ir : IR :=
  (.call 63 [(false, [(.v 2)]), (false, [(.v 3)])] [(false, 1)]
  (.call 74 [(true, [(.v 0), (.v 1)]), (false, [(.v 4)])] [(false, 1)]
  (.call 75 [(false, [(.v 5)])] [(true, 11)]
  (.ret [(true, (vr 6 11))]))))
theorem table_at_c : compile envIrTb 3000 58 = .ok table_at_ir := by kernel_rfl
theorem table_at_p : paramShape Tryd.prog 58 = some [(true, 2), (false, 1), (false, 1)] := by kernel_rfl
theorem table_at_k : Known gAll 58 (.ir [(true, 2), (false, 1), (false, 1)] table_at_ir) := known_ir (E := envIrTb) (n := 3000) rfl rfl table_at_c table_at_p
def table_links_ir : IR :=
  (.call 76 [(true, (vr 0 11))] [(false, 1)]
  (.ite (.v 12)
  (.call 49 [(true, (vr 0 11)), (false, [(.v 11)])] [(false, 1)]
  (.lt (.un .not (.v 13)) (.ret [(false, [(.v 14)])])))
  (.ret [(false, [(.c (.b false))])])))
theorem table_links_c : compile envIrTb 3000 60 = .ok table_links_ir := by kernel_rfl
theorem table_links_p : paramShape Tryd.prog 60 = some [(true, 11), (false, 1)] := by kernel_rfl
theorem table_links_k : Known gAll 60 (.ir [(true, 11), (false, 1)] table_links_ir) := known_ir (E := envIrTb) (n := 3000) rfl rfl table_links_c table_links_p
def table_place_ir : IR :=
  (.lt (.bin .mul (.v 0) (.c (.i .u64 4096))) (.lt (.cv .u64 (.v 1)) (.lt (.bin .mul (.v 3) (.c (.i .u64 8))) (.lt (.bin .add (.v 2) (.v 4)) (.ret [(false, [(.v 5)])])))))
theorem table_place_c : compile envIrTb 3000 63 = .ok table_place_ir := by kernel_rfl
theorem table_place_p : paramShape Tryd.prog 63 = some [(false, 1), (false, 1)] := by kernel_rfl
theorem table_place_k : Known gAll 63 (.ir [(false, 1), (false, 1)] table_place_ir) := known_ir (E := envIrTb) (n := 3000) rfl rfl table_place_c table_place_p
def atlasref19_At_ir : IR :=
  (.lt (.bin .mul (.c (.i .u64 4096)) (.v 2)) (.lt (.cv .u64 (.v 3)) (.lt (.bin .mul (.c (.i .u64 8)) (.v 5)) (.lt (.bin .add (.v 4) (.v 6)) (.call 82 [(true, [(.v 0), (.v 1)]), (false, [(.v 7)])] [(false, 1)]
  (.call 81 [(false, [(.v 8)])] [(true, 11)]
  (.ret [(true, (vr 9 11))])))))))
theorem atlasref19_At_c : compile envIrTb 3000 64 = .ok atlasref19_At_ir := by kernel_rfl
theorem atlasref19_At_p : paramShape Tryd.prog 64 = some [(true, 2), (false, 1), (false, 1)] := by kernel_rfl
theorem atlasref19_At_k : Known gAll 64 (.ir [(true, 2), (false, 1), (false, 1)] atlasref19_At_ir) := known_ir (E := envIrTb) (n := 3000) rfl rfl atlasref19_At_c atlasref19_At_p
def atlasref19_Links_ir : IR :=
  (.call 28 [(true, (vr 0 11))] [(false, 1)]
  (.ite (.v 12)
  (.call 36 [(true, (vr 0 11)), (false, [(.v 11)])] [(false, 1)]
  (.lt (.un .not (.v 13)) (.ret [(false, [(.v 14)])])))
  (.ret [(false, [(.c (.b false))])])))
theorem atlasref19_Links_c : compile envIrTb 3000 65 = .ok atlasref19_Links_ir := by kernel_rfl
theorem atlasref19_Links_p : paramShape Tryd.prog 65 = some [(true, 11), (false, 1)] := by kernel_rfl
theorem atlasref19_Links_k : Known gAll 65 (.ir [(true, 11), (false, 1)] atlasref19_Links_ir) := known_ir (E := envIrTb) (n := 3000) rfl rfl atlasref19_Links_c atlasref19_Links_p
def bits_TrailingZeros64_ir : IR :=
  (.lt (.bin .eql (.v 0) (.c (.i .u64 0))) (.ite (.v 1)
  (.ret [(false, [(.c (.i .i64 64))])])
  (.lt (.un .neg (.v 0)) (.lt (.bin .and (.v 0) (.v 2)) (.lt (.bin .mul (.v 3) (.c (.i .u64 285870213051353865))) (.lt (.bin .shr (.v 4) (.c (.i .u64 58))) (.chk (.rng (.v 5) 64) (.lt (.cv .i64 (selE (.v 5) 0 [(.c (.i .u8 0)), (.c (.i .u8 1)), (.c (.i .u8 56)), (.c (.i .u8 2)), (.c (.i .u8 57)), (.c (.i .u8 49)), (.c (.i .u8 28)), (.c (.i .u8 3)), (.c (.i .u8 61)), (.c (.i .u8 58)), (.c (.i .u8 42)), (.c (.i .u8 50)), (.c (.i .u8 38)), (.c (.i .u8 29)), (.c (.i .u8 17)), (.c (.i .u8 4)), (.c (.i .u8 62)), (.c (.i .u8 47)), (.c (.i .u8 59)), (.c (.i .u8 36)), (.c (.i .u8 45)), (.c (.i .u8 43)), (.c (.i .u8 51)), (.c (.i .u8 22)), (.c (.i .u8 53)), (.c (.i .u8 39)), (.c (.i .u8 33)), (.c (.i .u8 30)), (.c (.i .u8 24)), (.c (.i .u8 18)), (.c (.i .u8 12)), (.c (.i .u8 5)), (.c (.i .u8 63)), (.c (.i .u8 55)), (.c (.i .u8 48)), (.c (.i .u8 27)), (.c (.i .u8 60)), (.c (.i .u8 41)), (.c (.i .u8 37)), (.c (.i .u8 16)), (.c (.i .u8 46)), (.c (.i .u8 35)), (.c (.i .u8 44)), (.c (.i .u8 21)), (.c (.i .u8 52)), (.c (.i .u8 32)), (.c (.i .u8 23)), (.c (.i .u8 11)), (.c (.i .u8 54)), (.c (.i .u8 26)), (.c (.i .u8 40)), (.c (.i .u8 15)), (.c (.i .u8 34)), (.c (.i .u8 20)), (.c (.i .u8 31)), (.c (.i .u8 10)), (.c (.i .u8 25)), (.c (.i .u8 14)), (.c (.i .u8 19)), (.c (.i .u8 9)), (.c (.i .u8 13)), (.c (.i .u8 8)), (.c (.i .u8 7)), (.c (.i .u8 6))])) (.ret [(false, [(.v 6)])])))))))))
theorem bits_TrailingZeros64_c : compile envIrTb 3000 68 = .ok bits_TrailingZeros64_ir := by kernel_rfl
theorem bits_TrailingZeros64_p : paramShape Tryd.prog 68 = some [(false, 1)] := by kernel_rfl
theorem bits_TrailingZeros64_k : Known gAll 68 (.ir [(false, 1)] bits_TrailingZeros64_ir) := known_ir (E := envIrTb) (n := 3000) rfl rfl bits_TrailingZeros64_c bits_TrailingZeros64_p
def pool_Is_ir : IR :=
  (.call 92 [(true, [(.v 0), (.v 1), (.v 2)]), (false, [(.v 3)])] [(false, 1)]
  (.ite (.v 4)
  (.lt (.bin .sub (.v 3) (.v 0)) (.lt (.cv .i64 (.v 5)) (.call 79 [(false, [(.v 2)]), (false, [(.v 6)]), (false, [(.c (.i .i64 1))])] [(false, 1)]
  (.lt (.bin .eql (.v 7) (.c (.i .u64 0))) (.ret [(false, [(.v 8)])])))))
  (.ret [(false, [(.c (.b false))])])))
theorem pool_Is_c : compile envIrTb 3000 72 = .ok pool_Is_ir := by kernel_rfl
theorem pool_Is_p : paramShape Tryd.prog 72 = some [(true, 3), (false, 1)] := by kernel_rfl
theorem pool_Is_k : Known gAll 72 (.ir [(true, 3), (false, 1)] pool_Is_ir) := known_ir (E := envIrTb) (n := 3000) rfl rfl pool_Is_c pool_Is_p
def pool_in_ir : IR :=
  (.lt (.bin .geq (.v 3) (.v 0)) (.ite (.v 4)
  (.lt (.bin .sub (.v 3) (.v 0)) (.lt (.cv .u64 (.v 1)) (.lt (.bin .lss (.v 5) (.v 6)) (.ret [(false, [(.v 7)])]))))
  (.ret [(false, [(.c (.b false))])])))
theorem pool_in_c : compile envIrTb 3000 92 = .ok pool_in_ir := by kernel_rfl
theorem pool_in_p : paramShape Tryd.prog 92 = some [(true, 3), (false, 1)] := by kernel_rfl
theorem pool_in_k : Known gAll 92 (.ir [(true, 3), (false, 1)] pool_in_ir) := known_ir (E := envIrTb) (n := 3000) rfl rfl pool_in_c pool_in_p
def TIrTb : Tbl :=
  (11, .ir [(true, 3)] atlasref04_Right_ir) ::
  (12, .ir [(true, 2), (true, 3)] table_Fresh_ir) ::
  (13, .ir [(true, 2), (true, 3)] atlasref19_Fresh_ir) ::
  (15, .ir [(true, 3), (false, 1)] atlasref04_Is_ir) ::
  (16, .ir [(true, 2), (true, 3), (false, 1)] table_Back_ir) ::
  (17, .ir [(true, 2), (true, 3), (false, 1)] atlasref19_Back_ir) ::
  (18, .ir [(true, 2), (false, 1)] table_Empty_ir) ::
  (19, .ir [(true, 2), (false, 1), (false, 1)] atlaslaw19_fits_ir) ::
  (21, .ir [(true, 2), (false, 1), (false, 1), (false, 1)] table_Pages_ir) ::
  (27, .ir [(true, 11)] atlasref06_May_ir) ::
  (29, .ir [(true, 2), (false, 1), (false, 1), (false, 1), (false, 1)] table_Reach_ir) ::
  (30, .ir [(true, 2), (true, 13), (false, 1), (true, 11)] table_With_ir) ::
  (32, .ir [(true, 2), (false, 1), (false, 1), (false, 1), (false, 1)] atlasref19_Reach_ir) ::
  (33, .ir [(false, 1), (false, 1)] atlasref19_Same_ir) ::
  (34, .ir [(true, 2), (false, 1), (false, 1), (false, 1)] atlasref19_Pages_ir) ::
  (35, .ir [(false, 1), (true, 4), (false, 1)] atlasref06_Make_ir) ::
  (37, .ir [(true, 2), (false, 1), (false, 1)] table_Frames_ir) ::
  (38, .ir [(false, 1), (false, 1)] atlasref19_Ints_ir) ::
  (40, .ir [(true, 3)] pool_Take_ir) ::
  (41, .ir [(true, 2), (false, 1)] table_clear_ir) ::
  (42, .ir [(true, 3)] atlasref04_Take_ir) ::
  (44, .ir [(true, 3), (false, 1)] pool_Give_ir) ::
  (45, .ir [(true, 3), (false, 1)] atlasref04_Give_ir) ::
  (47, .ir [(true, 2), (false, 1), (false, 1), (false, 1)] atlasref19_Right_ir) ::
  (58, .ir [(true, 2), (false, 1), (false, 1)] table_at_ir) ::
  (60, .ir [(true, 11), (false, 1)] table_links_ir) ::
  (63, .ir [(false, 1), (false, 1)] table_place_ir) ::
  (64, .ir [(true, 2), (false, 1), (false, 1)] atlasref19_At_ir) ::
  (65, .ir [(true, 11), (false, 1)] atlasref19_Links_ir) ::
  (68, .ir [(false, 1)] bits_TrailingZeros64_ir) ::
  (72, .ir [(true, 3), (false, 1)] pool_Is_ir) ::
  (92, .ir [(true, 3), (false, 1)] pool_in_ir) ::
  []
theorem TIrTb_ok : ∀ x ∈ TIrTb, Known gAll x.1 x.2 :=
  kcons atlasref04_Right_k <|
  kcons table_Fresh_k <|
  kcons atlasref19_Fresh_k <|
  kcons atlasref04_Is_k <|
  kcons table_Back_k <|
  kcons atlasref19_Back_k <|
  kcons table_Empty_k <|
  kcons atlaslaw19_fits_k <|
  kcons table_Pages_k <|
  kcons atlasref06_May_k <|
  kcons table_Reach_k <|
  kcons table_With_k <|
  kcons atlasref19_Reach_k <|
  kcons atlasref19_Same_k <|
  kcons atlasref19_Pages_k <|
  kcons atlasref06_Make_k <|
  kcons table_Frames_k <|
  kcons atlasref19_Ints_k <|
  kcons pool_Take_k <|
  kcons table_clear_k <|
  kcons atlasref04_Take_k <|
  kcons pool_Give_k <|
  kcons atlasref04_Give_k <|
  kcons atlasref19_Right_k <|
  kcons table_at_k <|
  kcons table_links_k <|
  kcons table_place_k <|
  kcons atlasref19_At_k <|
  kcons atlasref19_Links_k <|
  kcons bits_TrailingZeros64_k <|
  kcons pool_Is_k <|
  kcons pool_in_k <|
  fun _ h => nomatch h
end Go.Proofs.YtnlilhpkjlodjaaDoor.Sx
