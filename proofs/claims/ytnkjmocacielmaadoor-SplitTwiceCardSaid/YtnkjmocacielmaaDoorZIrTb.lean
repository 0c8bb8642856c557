/-
 IRs of functions, printed by a program of mine (wip/tools/mkir.py, ev.run.lean); each is checked by the kernel against the executor.
-/
import Derived.Test.YtnkjmocacielmaaDoorZBf
import Derived.Test.YtnkjmocacielmaaDoorProg
namespace Go.Proofs.YtnkjmocacielmaaDoor.Sx
open Go
set_option maxRecDepth 100000
def inlenvIrTb : List FuncId :=
 100 ::
 []
def itsenvIrTb : List (FuncId × Shape) :=
 (108, [(false, 1), (true, 11)]) ::
 []
noncomputable def envIrTb : Env := { P := Tryd.prog, G := gAll, inl := inlenvIrTb, unr := [], ded := true, its := itsenvIrTb }
def atlasref04_Right_ir : IR :=
 (.lt (.bin .lss (.v 1) (.c (.i .i64 0))) (.ite (.v 3)
 (.ret [(false, [(.c (.b false))])])
 (.lt (.bin .gtr (.v 1) (.c (.i .i64 64))) (.ite (.v 4)
 (.ret [(false, [(.c (.b false))])])
 (.lt (.bin .gtr (.v 0) (.c (.i .u64 268435456))) (.ite (.v 5)
 (.ret [(false, [(.c (.b false))])])
 (.loop [(.c (.b false)), (.v 1)]
 (.lt (.bin .lss (.v 7) (.c (.i .i64 64))) (.ite (.v 8)
 (.call 74 [(false, [(.v 2)]), (false, [(.v 7)])] [(false, 1)]
 (.ite (.v 9)
 (.ret [(false, [(.c (.b false))])])
 (.lt (.bin .add (.v 7) (.c (.i .i64 1))) (.cont 0 [(.v 6), (.v 10)]))))
 (.ret [(false, [(.c (.b true))])]))))))))))
theorem atlasref04_Right_c : compile envIrTb 3000 51 = .ok atlasref04_Right_ir := by kernel_rfl
theorem atlasref04_Right_p : paramShape Tryd.prog 51 = some [(true, 3)] := by kernel_rfl
theorem atlasref04_Right_k : Known gAll 51 (.ir [(true, 3)] atlasref04_Right_ir) := known_ir (E := envIrTb) (n := 3000) rfl rfl atlasref04_Right_c atlasref04_Right_p
def table_Fresh_ir : IR :=
 (.call 59 [(true, [(.v 2), (.v 3), (.v 4)])] [(true, 3), (false, 1), (false, 1)]
 (.lt (.bin .neq (.v 9) (.c (.i .i64 0))) (.ite (.v 10)
 (.ret [(true, [(.v 0), (.v 1)]), (true, [(.v 2), (.v 3), (.v 4)]), (false, [(.c (.i .u64 0))]), (false, [(.v 9)])])
 (.call 60 [(true, [(.v 0), (.v 1)]), (false, [(.v 8)])] [(true, 2)]
 (.ret [(true, [(.v 11), (.v 12)]), (true, [(.v 5), (.v 6), (.v 7)]), (false, [(.v 8)]), (false, [(.c (.i .i64 0))])])))))
theorem table_Fresh_c : compile envIrTb 3000 28 = .ok table_Fresh_ir := by kernel_rfl
theorem table_Fresh_p : paramShape Tryd.prog 28 = some [(true, 2), (true, 3)] := by kernel_rfl
theorem table_Fresh_k : Known gAll 28 (.ir [(true, 2), (true, 3)] table_Fresh_ir) := known_ir (E := envIrTb) (n := 3000) rfl rfl table_Fresh_c table_Fresh_p
def atlasref19_Fresh_ir : IR :=
 (.call 66 [(true, [(.v 2), (.v 3), (.v 4)])] [(true, 3), (false, 1), (false, 1)]
 (.lt (.bin .neq (.v 9) (.c (.i .i64 0))) (.ite (.v 10)
 (.ret [(true, [(.v 0), (.v 1)]), (true, [(.v 2), (.v 3), (.v 4)]), (false, [(.c (.i .u64 0))]), (false, [(.v 9)])])
 (.lt (.bin .mul (.c (.i .u64 4096)) (.v 8)) (.call 67 [(true, [(.v 0), (.v 1)]), (false, [(.v 11)]), (false, [(.c (.i .u64 4096))])] [(true, 2)]
 (.ret [(true, [(.v 12), (.v 13)]), (true, [(.v 5), (.v 6), (.v 7)]), (false, [(.v 8)]), (false, [(.c (.i .i64 0))])]))))))
theorem atlasref19_Fresh_c : compile envIrTb 3000 33 = .ok atlasref19_Fresh_ir := by kernel_rfl
theorem atlasref19_Fresh_p : paramShape Tryd.prog 33 = some [(true, 2), (true, 3)] := by kernel_rfl
theorem atlasref19_Fresh_k : Known gAll 33 (.ir [(true, 2), (true, 3)] atlasref19_Fresh_ir) := known_ir (E := envIrTb) (n := 3000) rfl rfl atlasref19_Fresh_c atlasref19_Fresh_p
def atlasref04_Is_ir : IR :=
 (.loop [(.c (.b false)), (.c (.i .i64 0))]
 (.lt (.bin .lss (.v 5) (.v 1)) (.ite (.v 6)
 (.lt (.cv .u64 (.v 5)) (.lt (.bin .add (.v 0) (.v 7)) (.lt (.bin .eql (.v 8) (.v 3)) (.ite (.v 9)
 (.call 74 [(false, [(.v 2)]), (false, [(.v 5)])] [(false, 1)]
 (.lt (.un .not (.v 10)) (.ret [(false, [(.v 11)])])))
 (.lt (.bin .add (.v 5) (.c (.i .i64 1))) (.cont 0 [(.v 4), (.v 10)]))))))
 (.ret [(false, [(.c (.b false))])]))))
theorem atlasref04_Is_c : compile envIrTb 3000 53 = .ok atlasref04_Is_ir := by kernel_rfl
theorem atlasref04_Is_p : paramShape Tryd.prog 53 = some [(true, 3), (false, 1)] := by kernel_rfl
theorem atlasref04_Is_k : Known gAll 53 (.ir [(true, 3), (false, 1)] atlasref04_Is_ir) := known_ir (E := envIrTb) (n := 3000) rfl rfl atlasref04_Is_c atlasref04_Is_p
def table_Back_ir : IR :=
 (.call 101 [(true, [(.v 2), (.v 3), (.v 4)]), (false, [(.v 5)])] [(true, 3), (false, 1)]
 (.call 60 [(true, [(.v 0), (.v 1)]), (false, [(.v 5)])] [(true, 2)]
 (.ret [(true, [(.v 10), (.v 11)]), (true, [(.v 6), (.v 7), (.v 8)])])))
theorem table_Back_c : compile envIrTb 3000 88 = .ok table_Back_ir := by kernel_rfl
theorem table_Back_p : paramShape Tryd.prog 88 = some [(true, 2), (true, 3), (false, 1)] := by kernel_rfl
theorem table_Back_k : Known gAll 88 (.ir [(true, 2), (true, 3), (false, 1)] table_Back_ir) := known_ir (E := envIrTb) (n := 3000) rfl rfl table_Back_c table_Back_p
def atlasref19_Back_ir : IR :=
 (.call 72 [(true, [(.v 2), (.v 3), (.v 4)]), (false, [(.v 5)])] [(true, 3), (false, 1)]
 (.lt (.bin .mul (.c (.i .u64 4096)) (.v 5)) (.call 67 [(true, [(.v 0), (.v 1)]), (false, [(.v 10)]), (false, [(.c (.i .u64 4096))])] [(true, 2)]
 (.ret [(true, [(.v 11), (.v 12)]), (true, [(.v 6), (.v 7), (.v 8)])]))))
theorem atlasref19_Back_c : compile envIrTb 3000 43 = .ok atlasref19_Back_ir := by kernel_rfl
theorem atlasref19_Back_p : paramShape Tryd.prog 43 = some [(true, 2), (true, 3), (false, 1)] := by kernel_rfl
theorem atlasref19_Back_k : Known gAll 43 (.ir [(true, 2), (true, 3), (false, 1)] atlasref19_Back_ir) := known_ir (E := envIrTb) (n := 3000) rfl rfl atlasref19_Back_c atlasref19_Back_p
def table_Empty_ir : IR :=
 (.call (itOff + 108) [(false, [(.c (.i .i64 2))]), (false, [(.c (.b false)), (.c (.i .i64 1)), (.c (.b true)), (.c (.i .i64 11))]), (true, [(.v 0), (.v 1)]), (true, [(.v 2)])] [(false, 1)]
 (.loop [(.c (.i .i64 0))]
 (.ite (.bin .lss (.v 4) (.len (.v 3)))
 (.ret [(false, [(.c (.b false))])])
 (.ret [(false, [(.c (.b true))])]))))
theorem table_Empty_c : compile envIrTb 3000 87 = .ok table_Empty_ir := by kernel_rfl
theorem table_Empty_p : paramShape Tryd.prog 87 = some [(true, 2), (false, 1)] := by kernel_rfl
theorem table_Empty_k : Known gAll 87 (.ir [(true, 2), (false, 1)] table_Empty_ir) := known_ir (E := envIrTb) (n := 3000) rfl rfl table_Empty_c table_Empty_p
def table_Reach_ir : IR :=
 (.loop [(.v 2), (.v 3), (.c (.b false)), (.c (.b false)), (.c (.b false)), (.c (.b false)), (.c (.b false)), (.c (.b false)), (.c (.b false)), (.c (.b false)), (.c (.i .u64 0)), (.c (.i .u64 0)), (.c (.i .u64 0))]
 (.call 57 [(false, [(.v 4)]), (false, [(.v 7)])] [(false, 1)]
 (.call 56 [(true, [(.v 0), (.v 1)]), (false, [(.v 6)]), (false, [(.v 19)])] [(true, 11)]
 (.lt (.bin .gtr (.v 7) (.v 5)) (.ite (.v 31)
 (.call 58 [(true, (vr 20 11)), (false, [(.v 7)])] [(false, 1)]
 (.ite (.v 32)
 (.lt (.bin .sub (.v 7) (.c (.i .i64 1))) (.cont 0 ([(.v 29), (.v 33)] ++ vr 20 11)))
 (.ret [(true, ([(.v 6), (.v 7)] ++ vr 20 11))])))
 (.ret [(true, ([(.v 6), (.v 7)] ++ vr 20 11))]))))))
theorem table_Reach_c : compile envIrTb 3000 27 = .ok table_Reach_ir := by kernel_rfl
theorem table_Reach_p : paramShape Tryd.prog 27 = some [(true, 2), (false, 1), (false, 1), (false, 1), (false, 1)] := by kernel_rfl
theorem table_Reach_k : Known gAll 27 (.ir [(true, 2), (false, 1), (false, 1), (false, 1), (false, 1)] table_Reach_ir) := known_ir (E := envIrTb) (n := 3000) rfl rfl table_Reach_c table_Reach_p
def table_With_ir : IR :=
 (.call 61 [(true, (vr 16 11))] [(false, 1), (false, 1)]
 (.call 57 [(false, [(.v 15)]), (false, [(.v 3)])] [(false, 1)]
 (.call 63 [(false, [(.v 2)]), (false, [(.v 29)])] [(false, 1)]
 (.call 62 [(true, [(.v 0), (.v 1)]), (false, [(.v 30)]), (false, [(.c (.i .i64 8))]), (false, [(.v 27)])] [(true, 2), (false, 1)]
 (.ret [(true, [(.v 31), (.v 32)])])))))
theorem table_With_c : compile envIrTb 3000 29 = .ok table_With_ir := by kernel_rfl
theorem table_With_p : paramShape Tryd.prog 29 = some [(true, 2), (true, 13), (false, 1), (true, 11)] := by kernel_rfl
theorem table_With_k : Known gAll 29 (.ir [(true, 2), (true, 13), (false, 1), (true, 11)] table_With_ir) := known_ir (E := envIrTb) (n := 3000) rfl rfl table_With_c table_With_p
def atlasref19_Reach_ir : IR :=
 (.call 32 [(false, [(.v 4)]), (false, [(.v 3)])] [(false, 1)]
 (.call 31 [(true, [(.v 0), (.v 1)]), (false, [(.v 2)]), (false, [(.v 6)])] [(true, 11)]
 (.lt (.bin .gtr (.v 3) (.v 5)) (.ite (.v 18)
 (.call 35 [(true, (vr 7 11)), (false, [(.v 3)])] [(false, 1)]
 (.ite (.v 19)
 (.lt (.bin .sub (.v 3) (.c (.i .i64 1))) (.call 15 [(true, [(.v 0), (.v 1)]), (false, [(.v 16)]), (false, [(.v 20)]), (false, [(.v 4)]), (false, [(.v 5)])] [(true, 13)]
 (.ret [(true, (vr 21 13))])))
 (.ret [(true, ([(.v 2), (.v 3)] ++ vr 7 11))])))
 (.ret [(true, ([(.v 2), (.v 3)] ++ vr 7 11))])))))
theorem atlasref19_Reach_c : compile envIrTb 3000 15 = .ok atlasref19_Reach_ir := by kernel_rfl
theorem atlasref19_Reach_p : paramShape Tryd.prog 15 = some [(true, 2), (false, 1), (false, 1), (false, 1), (false, 1)] := by kernel_rfl
theorem atlasref19_Reach_k : Known gAll 15 (.ir [(true, 2), (false, 1), (false, 1), (false, 1), (false, 1)] atlasref19_Reach_ir) := known_ir (E := envIrTb) (n := 3000) rfl rfl atlasref19_Reach_c atlasref19_Reach_p
def atlasref19_Same_ir : IR :=
 (.lt (.len (.v 0)) (.lt (.len (.v 1)) (.lt (.bin .neq (.v 2) (.v 3)) (.ite (.v 4)
 (.ret [(false, [(.c (.b false))])])
 (.loop [(.c (.b false)), (.c (.i .i64 0))]
 (.lt (.len (.v 0)) (.lt (.bin .lss (.v 6) (.v 7)) (.ite (.v 8)
 (.chk (.inb (.v 0) (.v 6) 8) (.chk (.inb (.v 1) (.v 6) 8) (.lt (.un .not (.ite (.eqt false (.idx (.v 0) (.v 6) 0) (.idx (.v 1) (.v 6) 0)) (.ite (.eqt false (.idx (.v 0) (.v 6) 1) (.idx (.v 1) (.v 6) 1)) (.ite (.eqt false (.idx (.v 0) (.v 6) 2) (.idx (.v 1) (.v 6) 2)) (.ite (.eqt true (.idx (.v 0) (.v 6) 3) (.idx (.v 1) (.v 6) 3)) (.ite (.eqt true (.idx (.v 0) (.v 6) 4) (.idx (.v 1) (.v 6) 4)) (.ite (.eqt true (.idx (.v 0) (.v 6) 5) (.idx (.v 1) (.v 6) 5)) (.ite (.eqt true (.idx (.v 0) (.v 6) 6) (.idx (.v 1) (.v 6) 6)) (.ite (.eqt true (.idx (.v 0) (.v 6) 7) (.idx (.v 1) (.v 6) 7)) (.c (.b true)) (.c (.b false))) (.c (.b false))) (.c (.b false))) (.c (.b false))) (.c (.b false))) (.c (.b false))) (.c (.b false))) (.c (.b false)))) (.ite (.v 9)
 (.ret [(false, [(.c (.b false))])])
 (.lt (.bin .add (.v 6) (.c (.i .i64 1))) (.cont 0 [(.v 5), (.v 10)]))))))
 (.ret [(false, [(.c (.b true))])])))))))))
theorem atlasref19_Same_c : compile envIrTb 3000 21 = .ok atlasref19_Same_ir := by kernel_rfl
theorem atlasref19_Same_p : paramShape Tryd.prog 21 = some [(false, 1), (false, 1)] := by kernel_rfl
theorem atlasref19_Same_k : Known gAll 21 (.ir [(false, 1), (false, 1)] atlasref19_Same_ir) := known_ir (E := envIrTb) (n := 3000) rfl rfl atlasref19_Same_c atlasref19_Same_p
def atlasref19_Pages_ir : IR :=
 (.loop [(.c (.i .i64 0)), (.c (.sl 0 []))]
 (.lt (.bin .lss (.v 5) (.c (.i .i64 512))) (.ite (.v 7)
 (.call 31 [(true, [(.v 0), (.v 1)]), (false, [(.v 2)]), (false, [(.v 5)])] [(true, 11)]
 (.lt (.cv .u64 (.v 5)) (.call 44 [(false, [(.v 3)])] [(false, 1)]
 (.lt (.bin .mul (.v 19) (.v 20)) (.lt (.bin .add (.v 4) (.v 21)) (.call 45 [(true, (vr 8 11)), (false, [(.v 3)])] [(false, 1)]
 (.ite (.v 23)
 (.lt (.bin .add (.v 5) (.c (.i .i64 1))) (.cont 0 [(.v 24), (.v 6)]))
 (.call 16 [(true, (vr 8 11))] [(false, 1)]
 (.ite (.v 24)
 (.call 47 [(false, [(.v 22)])] [(false, 1)]
 (.call 46 [(false, [(.v 25)])] [(false, 1)]
 (.lt (.bin .mul (.c (.i .u64 4096)) (.v 17)) (.call 48 [(true, (vr 8 11))] [(true, 4)]
 (.chk (.room (.len (.app 8 (.v 6) (.one ([(.v 26), (.v 27), (.v 3)] ++ vr 28 4 ++ [(.v 15)])))) 33) (.lt (.bin .add (.v 5) (.c (.i .i64 1))) (.cont 0 [(.v 32), (.app 8 (.v 6) (.one ([(.v 26), (.v 27), (.v 3)] ++ vr 28 4 ++ [(.v 15)])))])))))))
 (.lt (.bin .sub (.v 3) (.c (.i .i64 1))) (.call 22 [(true, [(.v 0), (.v 1)]), (false, [(.v 17)]), (false, [(.v 25)]), (false, [(.v 22)])] [(false, 1)]
 (.chk (.room (.len (.app 8 (.v 6) (.v 26))) 33) (.lt (.bin .add (.v 5) (.c (.i .i64 1))) (.cont 0 [(.v 27), (.app 8 (.v 6) (.v 26))]))))))))))))))
 (.ret [(false, [(.v 6)])]))))
theorem atlasref19_Pages_c : compile envIrTb 3000 22 = .ok atlasref19_Pages_ir := by kernel_rfl
theorem atlasref19_Pages_p : paramShape Tryd.prog 22 = some [(true, 2), (false, 1), (false, 1), (false, 1)] := by kernel_rfl
theorem atlasref19_Pages_k : Known gAll 22 (.ir [(true, 2), (false, 1), (false, 1), (false, 1)] atlasref19_Pages_ir) := known_ir (E := envIrTb) (n := 3000) rfl rfl atlasref19_Pages_c atlasref19_Pages_p
def atlasref06_Make_ir : IR :=
 (.ret [(true, ([(.c (.b true))] ++ vr 1 5 ++ [(.c (.b false)), (.c (.b false)), (.c (.i .u64 0)), (.v 0), (.c (.i .u64 0))]))])
theorem atlasref06_Make_c : compile envIrTb 3000 24 = .ok atlasref06_Make_ir := by kernel_rfl
theorem atlasref06_Make_p : paramShape Tryd.prog 24 = some [(false, 1), (true, 4), (false, 1)] := by kernel_rfl
theorem atlasref06_Make_k : Known gAll 24 (.ir [(false, 1), (true, 4), (false, 1)] atlasref06_Make_ir) := known_ir (E := envIrTb) (n := 3000) rfl rfl atlasref06_Make_c atlasref06_Make_p
def pool_Take_ir : IR :=
 (.lt (.ite (.eqt false (.v 0) (.v 0)) (.ite (.eqt false (.v 1) (.v 1)) (.ite (.eqt false (.v 2) (.c (.i .u64 0))) (.c (.b true)) (.c (.b false))) (.c (.b false))) (.c (.b false))) (.ite (.v 3)
 (.ret [(true, [(.v 0), (.v 1), (.v 2)]), (false, [(.c (.i .u64 0))]), (false, [(.c (.i .i64 8))])])
 (.call 78 [(false, [(.v 2)])] [(false, 1)]
 (.call 79 [(false, [(.v 2)]), (false, [(.v 4)]), (false, [(.c (.i .i64 1))]), (false, [(.c (.i .u64 0))])] [(false, 1)]
 (.lt (.cv .u64 (.v 4)) (.lt (.bin .add (.v 0) (.v 6)) (.ret [(true, [(.v 0), (.v 1), (.v 5)]), (false, [(.v 7)]), (false, [(.c (.i .i64 0))])])))))))
theorem pool_Take_c : compile envIrTb 3000 59 = .ok pool_Take_ir := by kernel_rfl
theorem pool_Take_p : paramShape Tryd.prog 59 = some [(true, 3)] := by kernel_rfl
theorem pool_Take_k : Known gAll 59 (.ir [(true, 3)] pool_Take_ir) := known_ir (E := envIrTb) (n := 3000) rfl rfl pool_Take_c pool_Take_p
def table_clear_ir : IR :=
 (.lt (.bin .mul (.v 2) (.c (.i .u64 4096))) (.call 80 [(true, [(.v 0), (.v 1)]), (false, [(.v 3)]), (false, [(.c (.i .u64 4096))])] [(true, 2)]
 (.ret [(true, [(.v 4), (.v 5)])])))
theorem table_clear_c : compile envIrTb 3000 60 = .ok table_clear_ir := by kernel_rfl
theorem table_clear_p : paramShape Tryd.prog 60 = some [(true, 2), (false, 1)] := by kernel_rfl
theorem table_clear_k : Known gAll 60 (.ir [(true, 2), (false, 1)] table_clear_ir) := known_ir (E := envIrTb) (n := 3000) rfl rfl table_clear_c table_clear_p
def atlasref04_Take_ir : IR :=
 (.loop [(.c (.i .u64 0)), (.c (.i .i64 0)), (.c (.i .i64 0))]
 (.lt (.bin .lss (.v 5) (.v 1)) (.ite (.v 6)
 (.call 74 [(false, [(.v 2)]), (false, [(.v 5)])] [(false, 1)]
 (.ite (.v 7)
 (.call 85 [(false, [(.v 2)]), (false, [(.v 5)]), (false, [(.c (.i .i64 1))]), (false, [(.c (.i .u64 0))])] [(false, 1)]
 (.lt (.cv .u64 (.v 5)) (.lt (.bin .add (.v 0) (.v 9)) (.ret [(true, [(.v 0), (.v 1), (.v 8)]), (false, [(.v 10)]), (false, [(.c (.i .i64 0))])]))))
 (.lt (.bin .add (.v 5) (.c (.i .i64 1))) (.cont 0 [(.v 3), (.v 4), (.v 8)]))))
 (.ret [(true, [(.v 0), (.v 1), (.v 2)]), (false, [(.c (.i .u64 0))]), (false, [(.c (.i .i64 8))])]))))
theorem atlasref04_Take_c : compile envIrTb 3000 66 = .ok atlasref04_Take_ir := by kernel_rfl
theorem atlasref04_Take_p : paramShape Tryd.prog 66 = some [(true, 3)] := by kernel_rfl
theorem atlasref04_Take_k : Known gAll 66 (.ir [(true, 3)] atlasref04_Take_ir) := known_ir (E := envIrTb) (n := 3000) rfl rfl atlasref04_Take_c atlasref04_Take_p
def pool_Give_ir : IR :=
 (.call 109 [(true, [(.v 0), (.v 1), (.v 2)]), (false, [(.v 3)])] [(false, 1)]
 (.lt (.un .not (.v 4)) (.ite (.v 5)
 (.ret [(true, [(.v 0), (.v 1), (.v 2)]), (false, [(.c (.i .i64 1))])])
 (.lt (.bin .sub (.v 3) (.v 0)) (.lt (.cv .i64 (.v 6)) (.call 79 [(false, [(.v 2)]), (false, [(.v 7)]), (false, [(.c (.i .i64 1))]), (false, [(.c (.i .u64 1))])] [(false, 1)]
 (.ret [(true, [(.v 0), (.v 1), (.v 8)]), (false, [(.c (.i .i64 0))])])))))))
theorem pool_Give_c : compile envIrTb 3000 101 = .ok pool_Give_ir := by kernel_rfl
theorem pool_Give_p : paramShape Tryd.prog 101 = some [(true, 3), (false, 1)] := by kernel_rfl
theorem pool_Give_k : Known gAll 101 (.ir [(true, 3), (false, 1)] pool_Give_ir) := known_ir (E := envIrTb) (n := 3000) rfl rfl pool_Give_c pool_Give_p
def atlasref04_Give_ir : IR :=
 (.call 53 [(true, [(.v 0), (.v 1), (.v 2)]), (false, [(.v 3)])] [(false, 1)]
 (.lt (.un .not (.v 4)) (.ite (.v 5)
 (.ret [(true, [(.v 0), (.v 1), (.v 2)]), (false, [(.c (.i .i64 1))])])
 (.lt (.bin .sub (.v 3) (.v 0)) (.lt (.cv .i64 (.v 6)) (.call 85 [(false, [(.v 2)]), (false, [(.v 7)]), (false, [(.c (.i .i64 1))]), (false, [(.c (.i .u64 1))])] [(false, 1)]
 (.ret [(true, [(.v 0), (.v 1), (.v 8)]), (false, [(.c (.i .i64 0))])])))))))
theorem atlasref04_Give_c : compile envIrTb 3000 72 = .ok atlasref04_Give_ir := by kernel_rfl
theorem atlasref04_Give_p : paramShape Tryd.prog 72 = some [(true, 3), (false, 1)] := by kernel_rfl
theorem atlasref04_Give_k : Known gAll 72 (.ir [(true, 3), (false, 1)] atlasref04_Give_ir) := known_ir (E := envIrTb) (n := 3000) rfl rfl atlasref04_Give_c atlasref04_Give_p
def atlasref19_Right_ir : IR :=
 (.lt (.bin .lss (.v 3) (.c (.i .i64 0))) (.ite (.v 5)
 (.ret [(false, [(.v 4)]), (false, [(.c (.b false))])])
 (.lt (.bin .gtr (.v 3) (.c (.i .i64 2))) (.ite (.v 6)
 (.ret [(false, [(.v 4)]), (false, [(.c (.b false))])])
 (.lt (.bin .quo (.v 0) (.c (.i .u64 4096))) (.lt (.bin .geq (.v 2) (.v 7)) (.ite (.v 8)
 (.ret [(false, [(.v 4)]), (false, [(.c (.b false))])])
 (.lt (.len (.v 4)) (.lt (.bin .geq (.v 9) (.c (.i .i64 64))) (.ite (.v 10)
 (.ret [(false, [(.v 4)]), (false, [(.c (.b false))])])
 (.loop [(.c (.b false)), (.c (.i .i64 0))]
 (.lt (.len (.v 4)) (.lt (.bin .lss (.v 12) (.v 13)) (.ite (.v 14)
 (.chk (.inb (.v 4) (.v 12) 1) (.lt (.bin .eql (.idx (.v 4) (.v 12) 0) (.v 2)) (.ite (.v 15)
 (.ret [(false, [(.v 4)]), (false, [(.c (.b false))])])
 (.lt (.bin .add (.v 12) (.c (.i .i64 1))) (.cont 0 [(.v 11), (.v 16)])))))
 (.chk (.room (.len (.app 1 (.c (.sl 1 [])) (.v 4))) 9) (.chk (.room (.len (.app 1 (.app 1 (.c (.sl 1 [])) (.v 4)) (.one [(.v 2)]))) 9) (.loop [(.app 1 (.app 1 (.c (.sl 1 [])) (.v 4)) (.one [(.v 2)])), (.v 11), (.c (.i .i64 0))]
 (.lt (.bin .lss (.v 17) (.c (.i .i64 512))) (.ite (.v 18)
 (.call 31 [(true, [(.v 0), (.v 1)]), (false, [(.v 2)]), (false, [(.v 17)])] [(true, 11)]
 (.call 35 [(true, (vr 19 11)), (false, [(.v 3)])] [(false, 1)]
 (.ite (.v 30)
 (.lt (.bin .sub (.v 3) (.c (.i .i64 1))) (.call 52 [(true, [(.v 0), (.v 1)]), (false, [(.v 28)]), (false, [(.v 31)]), (false, [(.v 15)])] [(false, 1), (false, 1)]
 (.lt (.un .not (.v 33)) (.ite (.v 34)
 (.ret [(false, [(.v 32)]), (false, [(.c (.b false))])])
 (.lt (.bin .add (.v 17) (.c (.i .i64 1))) (.cont 1 [(.v 32), (.v 16), (.v 35)]))))))
 (.lt (.bin .add (.v 17) (.c (.i .i64 1))) (.cont 1 [(.v 15), (.v 16), (.v 31)])))))
 (.ret [(false, [(.v 15)]), (false, [(.c (.b true))])]))))))))))))))))))))
theorem atlasref19_Right_c : compile envIrTb 3000 52 = .ok atlasref19_Right_ir := by kernel_rfl
theorem atlasref19_Right_p : paramShape Tryd.prog 52 = some [(true, 2), (false, 1), (false, 1), (false, 1)] := by kernel_rfl
theorem atlasref19_Right_k : Known gAll 52 (.ir [(true, 2), (false, 1), (false, 1), (false, 1)] atlasref19_Right_ir) := known_ir (E := envIrTb) (n := 3000) rfl rfl atlasref19_Right_c atlasref19_Right_p
def table_at_ir : IR :=
 (.call 63 [(false, [(.v 2)]), (false, [(.v 3)])] [(false, 1)]
 (.call 76 [(true, [(.v 0), (.v 1)]), (false, [(.v 4)])] [(false, 1)]
 (.call 75 [(false, [(.v 5)])] [(true, 11)]
 (.ret [(true, (vr 6 11))]))))
theorem table_at_c : compile envIrTb 3000 56 = .ok table_at_ir := by kernel_rfl
theorem table_at_p : paramShape Tryd.prog 56 = some [(true, 2), (false, 1), (false, 1)] := by kernel_rfl
theorem table_at_k : Known gAll 56 (.ir [(true, 2), (false, 1), (false, 1)] table_at_ir) := known_ir (E := envIrTb) (n := 3000) rfl rfl table_at_c table_at_p
def table_links_ir : IR :=
 (.call 69 [(true, (vr 0 11))] [(false, 1)]
 (.ite (.v 12)
 (.call 70 [(true, (vr 0 11)), (false, [(.v 11)])] [(false, 1)]
 (.lt (.un .not (.v 13)) (.ret [(false, [(.v 14)])])))
 (.ret [(false, [(.c (.b false))])])))
theorem table_links_c : compile envIrTb 3000 58 = .ok table_links_ir := by kernel_rfl
theorem table_links_p : paramShape Tryd.prog 58 = some [(true, 11), (false, 1)] := by kernel_rfl
theorem table_links_k : Known gAll 58 (.ir [(true, 11), (false, 1)] table_links_ir) := known_ir (E := envIrTb) (n := 3000) rfl rfl table_links_c table_links_p
def table_place_ir : IR :=
 (.lt (.bin .mul (.v 0) (.c (.i .u64 4096))) (.lt (.cv .u64 (.v 1)) (.lt (.bin .mul (.v 3) (.c (.i .u64 8))) (.lt (.bin .add (.v 2) (.v 4)) (.ret [(false, [(.v 5)])])))))
theorem table_place_c : compile envIrTb 3000 63 = .ok table_place_ir := by kernel_rfl
theorem table_place_p : paramShape Tryd.prog 63 = some [(false, 1), (false, 1)] := by kernel_rfl
theorem table_place_k : Known gAll 63 (.ir [(false, 1), (false, 1)] table_place_ir) := known_ir (E := envIrTb) (n := 3000) rfl rfl table_place_c table_place_p
def atlasref19_At_ir : IR :=
 (.lt (.bin .mul (.c (.i .u64 4096)) (.v 2)) (.lt (.cv .u64 (.v 3)) (.lt (.bin .mul (.c (.i .u64 8)) (.v 5)) (.lt (.bin .add (.v 4) (.v 6)) (.call 65 [(true, [(.v 0), (.v 1)]), (false, [(.v 7)])] [(false, 1)]
 (.call 64 [(false, [(.v 8)])] [(true, 11)]
 (.ret [(true, (vr 9 11))])))))))
theorem atlasref19_At_c : compile envIrTb 3000 31 = .ok atlasref19_At_ir := by kernel_rfl
theorem atlasref19_At_p : paramShape Tryd.prog 31 = some [(true, 2), (false, 1), (false, 1)] := by kernel_rfl
theorem atlasref19_At_k : Known gAll 31 (.ir [(true, 2), (false, 1), (false, 1)] atlasref19_At_ir) := known_ir (E := envIrTb) (n := 3000) rfl rfl atlasref19_At_c atlasref19_At_p
def atlasref19_Links_ir : IR :=
 (.call 41 [(true, (vr 0 11))] [(false, 1)]
 (.ite (.v 12)
 (.call 45 [(true, (vr 0 11)), (false, [(.v 11)])] [(false, 1)]
 (.lt (.un .not (.v 13)) (.ret [(false, [(.v 14)])])))
 (.ret [(false, [(.c (.b false))])])))
theorem atlasref19_Links_c : compile envIrTb 3000 35 = .ok atlasref19_Links_ir := by kernel_rfl
theorem atlasref19_Links_p : paramShape Tryd.prog 35 = some [(true, 11), (false, 1)] := by kernel_rfl
theorem atlasref19_Links_k : Known gAll 35 (.ir [(true, 11), (false, 1)] atlasref19_Links_ir) := known_ir (E := envIrTb) (n := 3000) rfl rfl atlasref19_Links_c atlasref19_Links_p
def bits_TrailingZeros64_ir : IR :=
 (.lt (.bin .eql (.v 0) (.c (.i .u64 0))) (.ite (.v 1)
 (.ret [(false, [(.c (.i .i64 64))])])
 (.lt (.un .neg (.v 0)) (.lt (.bin .and (.v 0) (.v 2)) (.lt (.bin .mul (.v 3) (.c (.i .u64 285870213051353865))) (.lt (.bin .shr (.v 4) (.c (.i .u64 58))) (.chk (.rng (.v 5) 64) (.lt (.cv .i64 (selE (.v 5) 0 [(.c (.i .u8 0)), (.c (.i .u8 1)), (.c (.i .u8 56)), (.c (.i .u8 2)), (.c (.i .u8 57)), (.c (.i .u8 49)), (.c (.i .u8 28)), (.c (.i .u8 3)), (.c (.i .u8 61)), (.c (.i .u8 58)), (.c (.i .u8 42)), (.c (.i .u8 50)), (.c (.i .u8 38)), (.c (.i .u8 29)), (.c (.i .u8 17)), (.c (.i .u8 4)), (.c (.i .u8 62)), (.c (.i .u8 47)), (.c (.i .u8 59)), (.c (.i .u8 36)), (.c (.i .u8 45)), (.c (.i .u8 43)), (.c (.i .u8 51)), (.c (.i .u8 22)), (.c (.i .u8 53)), (.c (.i .u8 39)), (.c (.i .u8 33)), (.c (.i .u8 30)), (.c (.i .u8 24)), (.c (.i .u8 18)), (.c (.i .u8 12)), (.c (.i .u8 5)), (.c (.i .u8 63)), (.c (.i .u8 55)), (.c (.i .u8 48)), (.c (.i .u8 27)), (.c (.i .u8 60)), (.c (.i .u8 41)), (.c (.i .u8 37)), (.c (.i .u8 16)), (.c (.i .u8 46)), (.c (.i .u8 35)), (.c (.i .u8 44)), (.c (.i .u8 21)), (.c (.i .u8 52)), (.c (.i .u8 32)), (.c (.i .u8 23)), (.c (.i .u8 11)), (.c (.i .u8 54)), (.c (.i .u8 26)), (.c (.i .u8 40)), (.c (.i .u8 15)), (.c (.i .u8 34)), (.c (.i .u8 20)), (.c (.i .u8 31)), (.c (.i .u8 10)), (.c (.i .u8 25)), (.c (.i .u8 14)), (.c (.i .u8 19)), (.c (.i .u8 9)), (.c (.i .u8 13)), (.c (.i .u8 8)), (.c (.i .u8 7)), (.c (.i .u8 6))])) (.ret [(false, [(.v 6)])])))))))))
theorem bits_TrailingZeros64_c : compile envIrTb 3000 78 = .ok bits_TrailingZeros64_ir := by kernel_rfl
theorem bits_TrailingZeros64_p : paramShape Tryd.prog 78 = some [(false, 1)] := by kernel_rfl
theorem bits_TrailingZeros64_k : Known gAll 78 (.ir [(false, 1)] bits_TrailingZeros64_ir) := known_ir (E := envIrTb) (n := 3000) rfl rfl bits_TrailingZeros64_c bits_TrailingZeros64_p
def pool_Is_ir : IR :=
 (.call 112 [(true, [(.v 0), (.v 1), (.v 2)]), (false, [(.v 3)])] [(false, 1)]
 (.ite (.v 4)
 (.lt (.bin .sub (.v 3) (.v 0)) (.lt (.cv .i64 (.v 5)) (.call 77 [(false, [(.v 2)]), (false, [(.v 6)]), (false, [(.c (.i .i64 1))])] [(false, 1)]
 (.lt (.bin .eql (.v 7) (.c (.i .u64 0))) (.ret [(false, [(.v 8)])])))))
 (.ret [(false, [(.c (.b false))])])))
theorem pool_Is_c : compile envIrTb 3000 109 = .ok pool_Is_ir := by kernel_rfl
theorem pool_Is_p : paramShape Tryd.prog 109 = some [(true, 3), (false, 1)] := by kernel_rfl
theorem pool_Is_k : Known gAll 109 (.ir [(true, 3), (false, 1)] pool_Is_ir) := known_ir (E := envIrTb) (n := 3000) rfl rfl pool_Is_c pool_Is_p
def pool_in_ir : IR :=
 (.lt (.bin .geq (.v 3) (.v 0)) (.ite (.v 4)
 (.lt (.bin .sub (.v 3) (.v 0)) (.lt (.cv .u64 (.v 1)) (.lt (.bin .lss (.v 5) (.v 6)) (.ret [(false, [(.v 7)])]))))
 (.ret [(false, [(.c (.b false))])])))
theorem pool_in_c : compile envIrTb 3000 112 = .ok pool_in_ir := by kernel_rfl
theorem pool_in_p : paramShape Tryd.prog 112 = some [(true, 3), (false, 1)] := by kernel_rfl
theorem pool_in_k : Known gAll 112 (.ir [(true, 3), (false, 1)] pool_in_ir) := known_ir (E := envIrTb) (n := 3000) rfl rfl pool_in_c pool_in_p
def TIrTb : Tbl :=
 (51, .ir [(true, 3)] atlasref04_Right_ir) ::
 (28, .ir [(true, 2), (true, 3)] table_Fresh_ir) ::
 (33, .ir [(true, 2), (true, 3)] atlasref19_Fresh_ir) ::
 (53, .ir [(true, 3), (false, 1)] atlasref04_Is_ir) ::
 (88, .ir [(true, 2), (true, 3), (false, 1)] table_Back_ir) ::
 (43, .ir [(true, 2), (true, 3), (false, 1)] atlasref19_Back_ir) ::
 (87, .ir [(true, 2), (false, 1)] table_Empty_ir) ::
 (27, .ir [(true, 2), (false, 1), (false, 1), (false, 1), (false, 1)] table_Reach_ir) ::
 (29, .ir [(true, 2), (true, 13), (false, 1), (true, 11)] table_With_ir) ::
 (15, .ir [(true, 2), (false, 1), (false, 1), (false, 1), (false, 1)] atlasref19_Reach_ir) ::
 (21, .ir [(false, 1), (false, 1)] atlasref19_Same_ir) ::
 (22, .ir [(true, 2), (false, 1), (false, 1), (false, 1)] atlasref19_Pages_ir) ::
 (24, .ir [(false, 1), (true, 4), (false, 1)] atlasref06_Make_ir) ::
 (59, .ir [(true, 3)] pool_Take_ir) ::
 (60, .ir [(true, 2), (false, 1)] table_clear_ir) ::
 (66, .ir [(true, 3)] atlasref04_Take_ir) ::
 (101, .ir [(true, 3), (false, 1)] pool_Give_ir) ::
 (72, .ir [(true, 3), (false, 1)] atlasref04_Give_ir) ::
 (52, .ir [(true, 2), (false, 1), (false, 1), (false, 1)] atlasref19_Right_ir) ::
 (56, .ir [(true, 2), (false, 1), (false, 1)] table_at_ir) ::
 (58, .ir [(true, 11), (false, 1)] table_links_ir) ::
 (63, .ir [(false, 1), (false, 1)] table_place_ir) ::
 (31, .ir [(true, 2), (false, 1), (false, 1)] atlasref19_At_ir) ::
 (35, .ir [(true, 11), (false, 1)] atlasref19_Links_ir) ::
 (78, .ir [(false, 1)] bits_TrailingZeros64_ir) ::
 (109, .ir [(true, 3), (false, 1)] pool_Is_ir) ::
 (112, .ir [(true, 3), (false, 1)] pool_in_ir) ::
 []
theorem TIrTb_ok : ∀ x ∈ TIrTb, Known gAll x.1 x.2 :=
 kcons atlasref04_Right_k <|
 kcons table_Fresh_k <|
 kcons atlasref19_Fresh_k <|
 kcons atlasref04_Is_k <|
 kcons table_Back_k <|
 kcons atlasref19_Back_k <|
 kcons table_Empty_k <|
 kcons table_Reach_k <|
 kcons table_With_k <|
 kcons atlasref19_Reach_k <|
 kcons atlasref19_Same_k <|
 kcons atlasref19_Pages_k <|
 kcons atlasref06_Make_k <|
 kcons pool_Take_k <|
 kcons table_clear_k <|
 kcons atlasref04_Take_k <|
 kcons pool_Give_k <|
 kcons atlasref04_Give_k <|
 kcons atlasref19_Right_k <|
 kcons table_at_k <|
 kcons table_links_k <|
 kcons table_place_k <|
 kcons atlasref19_At_k <|
 kcons atlasref19_Links_k <|
 kcons bits_TrailingZeros64_k <|
 kcons pool_Is_k <|
 kcons pool_in_k <|
 fun _ h => nomatch h
end Go.Proofs.YtnkjmocacielmaaDoor.Sx
