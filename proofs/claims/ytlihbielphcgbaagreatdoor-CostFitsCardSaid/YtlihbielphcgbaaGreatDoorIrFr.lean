/-
  IRs of functions, printed by a program of mine (wip/tools/mkir.py, ev.run.lean); each is checked by the kernel against the executor.
-/
import Derived.Test.YtlihbielphcgbaaGreatDoorBf
import Derived.Test.YtlihbielphcgbaaGreatDoorProg
namespace Go.Proofs.YtlihbielphcgbaaGreatDoor.Sx
open Go
set_option maxRecDepth 100000
def inlenvIrFr : List FuncId :=
  25 ::
  23 ::
  []
noncomputable def envIrFr : Env := { P := Tryz.prog, G := gAll, inl := inlenvIrFr, unr := [], ded := true }
/-- atlas/atlasref21.May -/
def atlasref21_May_ir : IR :=
  (.lt (.bin .geq (.v 0) (.c (.i .i64 1))) (.ite (.v 4)
  (.lt (.bin .leq (.v 0) (.c (.i .i64 524288))) (.ite (.v 5)
  (.lt (.bin .geq (.v 1) (.c (.i .i64 1))) (.ite (.v 6)
  (.lt (.bin .leq (.v 1) (.c (.i .i64 64))) (.ite (.v 7)
  (.lt (.bin .geq (.v 2) (.c (.i .i64 1))) (.ite (.v 8)
  (.lt (.bin .leq (.v 2) (.c (.i .i64 16))) (.ite (.v 9)
  (.lt (.bin .geq (.v 3) (.c (.i .i64 0))) (.ite (.v 10)
  (.lt (.bin .leq (.v 3) (.c (.i .i64 16))) (.ret [(false, [(.v 11)])]))
  (.ret [(false, [(.c (.b false))])])))
  (.ret [(false, [(.c (.b false))])])))
  (.ret [(false, [(.c (.b false))])])))
  (.ret [(false, [(.c (.b false))])])))
  (.ret [(false, [(.c (.b false))])])))
  (.ret [(false, [(.c (.b false))])])))
  (.ret [(false, [(.c (.b false))])])))
theorem atlasref21_May_c : compile envIrFr 3000 8 = .ok atlasref21_May_ir := by kernel_rfl
theorem atlasref21_May_p : paramShape Tryz.prog 8 = some [(true, 4)] := by kernel_rfl
theorem atlasref21_May_k : Known gAll 8 (.ir [(true, 4)] atlasref21_May_ir) := known_ir (E := envIrFr) (n := 3000) rfl rfl atlasref21_May_c atlasref21_May_p
/-- atlas/atlasref25.Calm -/
def atlasref25_Calm_ir : IR :=
  (.lt (.len (.v 0)) (.lt (.bin .leq (.v 1) (.c (.i .i64 40))) (.ret [(false, [(.v 2)])])))
theorem atlasref25_Calm_c : compile envIrFr 3000 9 = .ok atlasref25_Calm_ir := by kernel_rfl
theorem atlasref25_Calm_p : paramShape Tryz.prog 9 = some [(false, 1)] := by kernel_rfl
theorem atlasref25_Calm_k : Known gAll 9 (.ir [(false, 1)] atlasref25_Calm_ir) := known_ir (E := envIrFr) (n := 3000) rfl rfl atlasref25_Calm_c atlasref25_Calm_p
/-- atlas/atlasref25.New -/
def atlasref25_New_ir : IR :=
  (.lt (.cv .u64 (.v 0)) (.lt (.bin .mul (.c (.i .u64 4096)) (.v 4)) (.ret [(true, (vr 0 4 ++ [(.v 5), (.c (.sl 0 [])), (.c (.sl 0 [])), (.c (.sl 0 [])), (.c (.sl 0 [])), (.c (.i .i64 (-1))), (.c (.i .i64 0)), (.c (.b false)), (.c (.b false))]))])))
theorem atlasref25_New_c : compile envIrFr 3000 16 = .ok atlasref25_New_ir := by kernel_rfl
theorem atlasref25_New_p : paramShape Tryz.prog 16 = some [(true, 4)] := by kernel_rfl
theorem atlasref25_New_k : Known gAll 16 (.ir [(true, 4)] atlasref25_New_ir) := known_ir (E := envIrFr) (n := 3000) rfl rfl atlasref25_New_c atlasref25_New_p
/-- atlas/atlasref25.Step -/
def atlasref25_Step_ir : IR :=
  (.lt (.bin .eql (.v 13) (.c (.i .i64 0))) (.ite (.v 25)
  (.loop [(.c (.i .i64 0)), (.c (.i .i64 0))]
  (.lt (.len (.v 7)) (.lt (.bin .lss (.v 27) (.v 28)) (.ite (.v 29)
  (.chk (.inb (.v 7) (.v 27) 1) (.ite (.idx (.v 7) (.v 27) 0)
  (.lt (.bin .add (.v 26) (.c (.i .i64 1))) (.lt (.bin .add (.v 27) (.c (.i .i64 1))) (.cont 0 [(.v 30), (.v 31)])))
  (.lt (.bin .add (.v 27) (.c (.i .i64 1))) (.cont 0 [(.v 26), (.v 30)]))))
  (.lt (.len (.v 7)) (.lt (.bin .geq (.v 30) (.c (.i .i64 32))) (.ite (.v 31)
  (.ret [(true, (vr 0 13)), (true, [(.c (.i .i64 1)), (.c (.i .i64 0)), (.c (.i .u64 0)), (.c (.b false)), (.c (.i .i64 0)), (.c (.i .u64 0))])])
  (.lt (.bin .geq (.v 26) (.v 2)) (.ite (.v 32)
  (.ret [(true, (vr 0 13)), (true, [(.c (.i .i64 9)), (.c (.i .i64 0)), (.c (.i .u64 0)), (.c (.b false)), (.c (.i .i64 0)), (.c (.i .u64 0))])])
  (.call 26 [(true, (vr 0 13))] [(false, 1)]
  (.lt (.bin .geq (.v 33) (.v 1)) (.ite (.v 34)
  (.ret [(true, (vr 0 13)), (true, [(.c (.i .i64 8)), (.c (.i .i64 0)), (.c (.i .u64 0)), (.c (.b false)), (.c (.i .i64 0)), (.c (.i .u64 0))])])
  (.chk (.room (.len (.app 1 (.c (.sl 1 [])) (.v 7))) 2) (.chk (.room (.len (.app 1 (.app 1 (.c (.sl 1 [])) (.v 7)) (.one [(.c (.b true))]))) 2) (.chk (.room (.len (.app 1 (.c (.sl 1 [])) (.v 6))) 25) (.chk (.room (.len (.app 1 (.app 1 (.c (.sl 1 [])) (.v 6)) (.one [(.c (.sl 0 []))]))) 25) (.lt (.len (.app 1 (.app 1 (.c (.sl 1 [])) (.v 7)) (.one [(.c (.b true))]))) (.lt (.bin .sub (.v 35) (.c (.i .i64 1))) (.ret [(true, (vr 0 6 ++ [(.app 1 (.app 1 (.c (.sl 1 [])) (.v 6)) (.one [(.c (.sl 0 []))])), (.app 1 (.app 1 (.c (.sl 1 [])) (.v 7)) (.one [(.c (.b true))]))] ++ vr 8 5)), (true, [(.c (.i .i64 0)), (.v 36), (.c (.i .u64 0)), (.c (.b false)), (.c (.i .i64 0)), (.c (.i .u64 0))])])))))))))))))))))))
  (.lt (.bin .eql (.v 13) (.c (.i .i64 1))) (.ite (.v 26)
  (.call 27 [(true, (vr 0 13)), (false, [(.v 14)])] [(false, 1)]
  (.lt (.un .not (.v 27)) (.ite (.v 28)
  (.ret [(true, (vr 0 13)), (true, [(.c (.i .i64 4)), (.c (.i .i64 0)), (.c (.i .u64 0)), (.c (.b false)), (.c (.i .i64 0)), (.c (.i .u64 0))])])
  (.lt (.bin .eql (.v 9) (.v 14)) (.ite (.v 29)
  (.ret [(true, (vr 0 13)), (true, [(.c (.i .i64 10)), (.c (.i .i64 0)), (.c (.i .u64 0)), (.c (.b false)), (.c (.i .i64 0)), (.c (.i .u64 0))])])
  (.call 28 [(true, (vr 0 13)), (false, [(.v 14)]), (false, [(.c (.sl 0 []))])] [(true, 13)]
  (.chk (.room (.len (.app 1 (.c (.sl 1 [])) (.v 37))) 2) (.chk (.inb (.app 1 (.c (.sl 1 [])) (.v 37)) (.v 14) 1) (.chk (.inb (.app 1 (.c (.sl 1 [])) (.v 37)) (.v 14) 1) (.ret [(true, (vr 30 7 ++ [(.put (.app 1 (.c (.sl 1 [])) (.v 37)) (.v 14) 0 [(.c (.b false))])] ++ vr 38 5)), (true, [(.c (.i .i64 0)), (.c (.i .i64 0)), (.c (.i .u64 0)), (.c (.b false)), (.c (.i .i64 0)), (.c (.i .u64 0))])]))))))))))
  (.lt (.bin .eql (.v 13) (.c (.i .i64 2))) (.ite (.v 27)
  (.lt (.bin .neq (.v 14) (.c (.i .i64 (-1)))) (.ite (.v 28)
  (.call 27 [(true, (vr 0 13)), (false, [(.v 14)])] [(false, 1)]
  (.lt (.un .not (.v 29)) (.ite (.v 30)
  (.ret [(true, (vr 0 13)), (true, [(.c (.i .i64 4)), (.c (.i .i64 0)), (.c (.i .u64 0)), (.c (.b false)), (.c (.i .i64 0)), (.c (.i .u64 0))])])
  (.ret [(true, (vr 0 9 ++ [(.v 14), (.v 10), (.v 11), (.v 12)])), (true, [(.c (.i .i64 0)), (.c (.i .i64 0)), (.c (.i .u64 0)), (.c (.b false)), (.c (.i .i64 0)), (.c (.i .u64 0))])]))))
  (.ret [(true, (vr 0 9 ++ [(.v 14), (.v 10), (.v 11), (.v 12)])), (true, [(.c (.i .i64 0)), (.c (.i .i64 0)), (.c (.i .u64 0)), (.c (.b false)), (.c (.i .i64 0)), (.c (.i .u64 0))])])))
  (.lt (.bin .eql (.v 13) (.c (.i .i64 3))) (.ite (.v 28)
  (.ite (.v 28)
  (.call 29 [(true, (vr 0 13)), (true, (vr 13 12))] [(true, 13), (true, 6)]
  (.ret [(true, (vr 29 13)), (true, (vr 42 6))]))
  (.lt (.bin .eql (.v 13) (.c (.i .i64 6))) (.ite (.v 29)
  (.call 30 [(true, (vr 0 13)), (true, (vr 13 12))] [(true, 13), (true, 6)]
  (.ret [(true, (vr 30 13)), (true, (vr 43 6))]))
  (.lt (.bin .eql (.v 13) (.c (.i .i64 7))) (.ite (.v 30)
  (.lt (.bin .neq (.v 22) (.c (.i .i64 0))) (.ite (.v 31)
  (.lt (.bin .neq (.v 22) (.c (.i .i64 1))) (.ite (.v 32)
  (.ret [(true, (vr 0 13)), (true, [(.c (.i .i64 1)), (.c (.i .i64 0)), (.c (.i .u64 0)), (.c (.b false)), (.c (.i .i64 0)), (.c (.i .u64 0))])])
  (.lt (.bin .rem (.v 24) (.c (.i .u64 2))) (.lt (.bin .eql (.v 33) (.c (.i .u64 1))) (.lt (.bin .quo (.v 24) (.c (.i .u64 2))) (.lt (.bin .rem (.v 35) (.c (.i .u64 2))) (.lt (.bin .eql (.v 36) (.c (.i .u64 1))) (.ret [(true, (vr 0 10 ++ [(.v 22), (.v 34), (.v 37)])), (true, [(.c (.i .i64 0)), (.c (.i .i64 0)), (.c (.i .u64 0)), (.c (.b false)), (.c (.i .i64 0)), (.c (.i .u64 0))])]))))))))
  (.lt (.bin .rem (.v 24) (.c (.i .u64 2))) (.lt (.bin .eql (.v 32) (.c (.i .u64 1))) (.lt (.bin .quo (.v 24) (.c (.i .u64 2))) (.lt (.bin .rem (.v 34) (.c (.i .u64 2))) (.lt (.bin .eql (.v 35) (.c (.i .u64 1))) (.ret [(true, (vr 0 10 ++ [(.v 22), (.v 33), (.v 36)])), (true, [(.c (.i .i64 0)), (.c (.i .i64 0)), (.c (.i .u64 0)), (.c (.b false)), (.c (.i .i64 0)), (.c (.i .u64 0))])]))))))))
  (.ret [(true, (vr 0 13)), (true, [(.c (.i .i64 0)), (.c (.i .i64 0)), (.c (.i .u64 0)), (.c (.b false)), (.c (.i .i64 0)), (.c (.i .u64 0))])]))))))
  (.lt (.bin .eql (.v 13) (.c (.i .i64 4))) (.ite (.v 29)
  (.ite (.v 29)
  (.call 29 [(true, (vr 0 13)), (true, (vr 13 12))] [(true, 13), (true, 6)]
  (.ret [(true, (vr 30 13)), (true, (vr 43 6))]))
  (.lt (.bin .eql (.v 13) (.c (.i .i64 6))) (.ite (.v 30)
  (.call 30 [(true, (vr 0 13)), (true, (vr 13 12))] [(true, 13), (true, 6)]
  (.ret [(true, (vr 31 13)), (true, (vr 44 6))]))
  (.lt (.bin .eql (.v 13) (.c (.i .i64 7))) (.ite (.v 31)
  (.lt (.bin .neq (.v 22) (.c (.i .i64 0))) (.ite (.v 32)
  (.lt (.bin .neq (.v 22) (.c (.i .i64 1))) (.ite (.v 33)
  (.ret [(true, (vr 0 13)), (true, [(.c (.i .i64 1)), (.c (.i .i64 0)), (.c (.i .u64 0)), (.c (.b false)), (.c (.i .i64 0)), (.c (.i .u64 0))])])
  (.lt (.bin .rem (.v 24) (.c (.i .u64 2))) (.lt (.bin .eql (.v 34) (.c (.i .u64 1))) (.lt (.bin .quo (.v 24) (.c (.i .u64 2))) (.lt (.bin .rem (.v 36) (.c (.i .u64 2))) (.lt (.bin .eql (.v 37) (.c (.i .u64 1))) (.ret [(true, (vr 0 10 ++ [(.v 22), (.v 35), (.v 38)])), (true, [(.c (.i .i64 0)), (.c (.i .i64 0)), (.c (.i .u64 0)), (.c (.b false)), (.c (.i .i64 0)), (.c (.i .u64 0))])]))))))))
  (.lt (.bin .rem (.v 24) (.c (.i .u64 2))) (.lt (.bin .eql (.v 33) (.c (.i .u64 1))) (.lt (.bin .quo (.v 24) (.c (.i .u64 2))) (.lt (.bin .rem (.v 35) (.c (.i .u64 2))) (.lt (.bin .eql (.v 36) (.c (.i .u64 1))) (.ret [(true, (vr 0 10 ++ [(.v 22), (.v 34), (.v 37)])), (true, [(.c (.i .i64 0)), (.c (.i .i64 0)), (.c (.i .u64 0)), (.c (.b false)), (.c (.i .i64 0)), (.c (.i .u64 0))])]))))))))
  (.ret [(true, (vr 0 13)), (true, [(.c (.i .i64 0)), (.c (.i .i64 0)), (.c (.i .u64 0)), (.c (.b false)), (.c (.i .i64 0)), (.c (.i .u64 0))])]))))))
  (.lt (.bin .eql (.v 13) (.c (.i .i64 5))) (.ite (.v 30)
  (.call 29 [(true, (vr 0 13)), (true, (vr 13 12))] [(true, 13), (true, 6)]
  (.ret [(true, (vr 31 13)), (true, (vr 44 6))]))
  (.lt (.bin .eql (.v 13) (.c (.i .i64 6))) (.ite (.v 31)
  (.call 30 [(true, (vr 0 13)), (true, (vr 13 12))] [(true, 13), (true, 6)]
  (.ret [(true, (vr 32 13)), (true, (vr 45 6))]))
  (.lt (.bin .eql (.v 13) (.c (.i .i64 7))) (.ite (.v 32)
  (.lt (.bin .neq (.v 22) (.c (.i .i64 0))) (.ite (.v 33)
  (.lt (.bin .neq (.v 22) (.c (.i .i64 1))) (.ite (.v 34)
  (.ret [(true, (vr 0 13)), (true, [(.c (.i .i64 1)), (.c (.i .i64 0)), (.c (.i .u64 0)), (.c (.b false)), (.c (.i .i64 0)), (.c (.i .u64 0))])])
  (.lt (.bin .rem (.v 24) (.c (.i .u64 2))) (.lt (.bin .eql (.v 35) (.c (.i .u64 1))) (.lt (.bin .quo (.v 24) (.c (.i .u64 2))) (.lt (.bin .rem (.v 37) (.c (.i .u64 2))) (.lt (.bin .eql (.v 38) (.c (.i .u64 1))) (.ret [(true, (vr 0 10 ++ [(.v 22), (.v 36), (.v 39)])), (true, [(.c (.i .i64 0)), (.c (.i .i64 0)), (.c (.i .u64 0)), (.c (.b false)), (.c (.i .i64 0)), (.c (.i .u64 0))])]))))))))
  (.lt (.bin .rem (.v 24) (.c (.i .u64 2))) (.lt (.bin .eql (.v 34) (.c (.i .u64 1))) (.lt (.bin .quo (.v 24) (.c (.i .u64 2))) (.lt (.bin .rem (.v 36) (.c (.i .u64 2))) (.lt (.bin .eql (.v 37) (.c (.i .u64 1))) (.ret [(true, (vr 0 10 ++ [(.v 22), (.v 35), (.v 38)])), (true, [(.c (.i .i64 0)), (.c (.i .i64 0)), (.c (.i .u64 0)), (.c (.b false)), (.c (.i .i64 0)), (.c (.i .u64 0))])]))))))))
  (.ret [(true, (vr 0 13)), (true, [(.c (.i .i64 0)), (.c (.i .i64 0)), (.c (.i .u64 0)), (.c (.b false)), (.c (.i .i64 0)), (.c (.i .u64 0))])])))))))))))))))))
theorem atlasref25_Step_c : compile envIrFr 3000 15 = .ok atlasref25_Step_ir := by kernel_rfl
theorem atlasref25_Step_p : paramShape Tryz.prog 15 = some [(true, 13), (true, 12)] := by kernel_rfl
theorem atlasref25_Step_k : Known gAll 15 (.ir [(true, 13), (true, 12)] atlasref25_Step_ir) := known_ir (E := envIrFr) (n := 3000) rfl rfl atlasref25_Step_c atlasref25_Step_p
/-- atlas/atlasref25.Find -/
def atlasref25_Find_ir : IR :=
  (.lt (.bin .eql (.v 9) (.c (.i .i64 (-1)))) (.ite (.v 14)
  (.ret [(true, [(.c (.i .u64 0)), (.c (.i .u64 0)), (.c (.i .i64 0)), (.c (.b false)), (.c (.b false)), (.c (.b false)), (.c (.b false)), (.c (.b false))]), (false, [(.c (.b false))])])
  (.chk (.inb (.v 6) (.v 9) 1) (.chk (.room (.len (.app 8 (.c (.sl 8 [])) (.idx (.v 6) (.v 9) 0))) 33) (.lt (.app 8 (.c (.sl 8 [])) (.idx (.v 6) (.v 9) 0)) (.chk (.c (.b false)) (.ret [])))))))
theorem atlasref25_Find_c : compile envIrFr 3000 50 = .ok atlasref25_Find_ir := by kernel_rfl
theorem atlasref25_Find_p : paramShape Tryz.prog 50 = some [(true, 13), (false, 1)] := by kernel_rfl
theorem atlasref25_Find_k : Known gAll 50 (.ir [(true, 13), (false, 1)] atlasref25_Find_ir) := known_ir (E := envIrFr) (n := 3000) rfl rfl atlasref25_Find_c atlasref25_Find_p
/-- atlas/atlasref25.Tables -/
def atlasref25_Tables_ir : IR :=
  (.call 44 [(false, [(.v 8)]), (false, [(.c (.b true))])] [(false, 1)]
  (.loop [(.v 13), (.c (.i .i64 0))]
  (.lt (.len (.v 7)) (.lt (.bin .lss (.v 15) (.v 16)) (.ite (.v 17)
  (.chk (.inb (.v 7) (.v 15) 1) (.ite (.idx (.v 7) (.v 15) 0)
  (.chk (.inb (.v 6) (.v 15) 1) (.call 44 [(false, [(.idx (.v 6) (.v 15) 0)]), (false, [(.c (.b false))])] [(false, 1)]
  (.lt (.bin .add (.v 14) (.v 18)) (.lt (.bin .add (.v 15) (.c (.i .i64 1))) (.cont 0 [(.v 19), (.v 20)])))))
  (.lt (.bin .add (.v 15) (.c (.i .i64 1))) (.cont 0 [(.v 14), (.v 18)]))))
  (.ret [(false, [(.v 14)])]))))))
theorem atlasref25_Tables_c : compile envIrFr 3000 26 = .ok atlasref25_Tables_ir := by kernel_rfl
theorem atlasref25_Tables_p : paramShape Tryz.prog 26 = some [(true, 13)] := by kernel_rfl
theorem atlasref25_Tables_k : Known gAll 26 (.ir [(true, 13)] atlasref25_Tables_ir) := known_ir (E := envIrFr) (n := 3000) rfl rfl atlasref25_Tables_c atlasref25_Tables_p
/-- atlas/atlasref25.List -/
def atlasref25_List_ir : IR :=
  (.lt (.bin .eql (.v 13) (.c (.i .i64 (-1)))) (.ite (.v 14)
  (.ret [(false, [(.v 8)])])
  (.chk (.inb (.v 6) (.v 13) 1) (.ret [(false, [(.idx (.v 6) (.v 13) 0)])]))))
theorem atlasref25_List_c : compile envIrFr 3000 23 = .ok atlasref25_List_ir := by kernel_rfl
theorem atlasref25_List_p : paramShape Tryz.prog 23 = some [(true, 13), (false, 1)] := by kernel_rfl
theorem atlasref25_List_k : Known gAll 23 (.ir [(true, 13), (false, 1)] atlasref25_List_ir) := known_ir (E := envIrFr) (n := 3000) rfl rfl atlasref25_List_c atlasref25_List_p
/-- atlas/atlasref25.Lives -/
def atlasref25_Lives_ir : IR :=
  (.lt (.bin .geq (.v 13) (.c (.i .i64 0))) (.ite (.v 14)
  (.lt (.len (.v 7)) (.lt (.bin .lss (.v 13) (.v 15)) (.ite (.v 16)
  (.chk (.inb (.v 7) (.v 13) 1) (.ret [(false, [(.idx (.v 7) (.v 13) 0)])]))
  (.ret [(false, [(.c (.b false))])]))))
  (.ret [(false, [(.c (.b false))])])))
theorem atlasref25_Lives_c : compile envIrFr 3000 27 = .ok atlasref25_Lives_ir := by kernel_rfl
theorem atlasref25_Lives_p : paramShape Tryz.prog 27 = some [(true, 13), (false, 1)] := by kernel_rfl
theorem atlasref25_Lives_k : Known gAll 27 (.ir [(true, 13), (false, 1)] atlasref25_Lives_ir) := known_ir (E := envIrFr) (n := 3000) rfl rfl atlasref25_Lives_c atlasref25_Lives_p
/-- atlas/atlasref25.With -/
def atlasref25_With_ir : IR :=
  (.lt (.bin .eql (.v 13) (.c (.i .i64 (-1)))) (.ite (.v 15)
  (.ret [(true, (vr 0 8 ++ [(.v 14)] ++ vr 9 4))])
  (.chk (.room (.len (.app 1 (.c (.sl 1 [])) (.v 6))) 25) (.chk (.inb (.app 1 (.c (.sl 1 [])) (.v 6)) (.v 13) 1) (.chk (.inb (.app 1 (.c (.sl 1 [])) (.v 6)) (.v 13) 1) (.ret [(true, (vr 0 6 ++ [(.put (.app 1 (.c (.sl 1 [])) (.v 6)) (.v 13) 0 [(.v 14)])] ++ vr 7 6))]))))))
theorem atlasref25_With_c : compile envIrFr 3000 28 = .ok atlasref25_With_ir := by kernel_rfl
theorem atlasref25_With_p : paramShape Tryz.prog 28 = some [(true, 13), (false, 1), (false, 1)] := by kernel_rfl
theorem atlasref25_With_k : Known gAll 28 (.ir [(true, 13), (false, 1), (false, 1)] atlasref25_With_ir) := known_ir (E := envIrFr) (n := 3000) rfl rfl atlasref25_With_c atlasref25_With_p
/-- atlas/atlasref25.pages -/
def atlasref25_pages_ir : IR :=
  (.call 45 [(true, (vr 0 13)), (false, [(.v 14)]), (false, [(.v 15)]), (false, [(.v 17)])] [(false, 1)]
  (.lt (.bin .neq (.v 25) (.c (.i .i64 0))) (.ite (.v 26)
  (.ret [(true, (vr 0 13)), (true, [(.v 25), (.c (.i .i64 0)), (.c (.i .u64 0)), (.c (.b false)), (.c (.i .i64 0)), (.c (.i .u64 0))])])
  (.lt (.bin .eql (.v 14) (.c (.i .i64 (-1)))) (.ite (.v 27)
  (.call 43 [(false, [(.v 17)])] [(false, 1)]
  (.call 21 [(false, [(.v 8)]), (false, [(.v 15)]), (false, [(.v 17)])] [(false, 1)]
  (.lt (.len (.v 29)) (.lt (.bin .gtr (.v 30) (.c (.i .i64 0))) (.lt (.bin .eql (.v 13) (.c (.i .i64 3))) (.ite (.v 32)
  (.lt (.bin .rem (.v 16) (.v 28)) (.lt (.bin .neq (.v 33) (.c (.i .u64 0))) (.ite (.v 34)
  (.ret [(true, (vr 0 13)), (true, [(.c (.i .i64 2)), (.c (.i .i64 0)), (.c (.i .u64 0)), (.c (.b false)), (.c (.i .i64 0)), (.c (.i .u64 0))])])
  (.lt (.bin .gtr (.v 28) (.v 4)) (.ite (.v 35)
  (.ret [(true, (vr 0 13)), (true, [(.c (.i .i64 3)), (.c (.i .i64 0)), (.c (.i .u64 0)), (.c (.b false)), (.c (.i .i64 0)), (.c (.i .u64 0))])])
  (.lt (.bin .sub (.v 4) (.v 28)) (.lt (.bin .gtr (.v 16) (.v 36)) (.ite (.v 37)
  (.ret [(true, (vr 0 13)), (true, [(.c (.i .i64 3)), (.c (.i .i64 0)), (.c (.i .u64 0)), (.c (.b false)), (.c (.i .i64 0)), (.c (.i .u64 0))])])
  (.lt (.bin .neq (.v 13) (.c (.i .i64 4))) (.ite (.v 38)
  (.call 46 [(true, (vr 18 4))] [(false, 1)]
  (.lt (.un .not (.v 39)) (.ite (.v 40)
  (.ret [(true, (vr 0 13)), (true, [(.c (.i .i64 5)), (.c (.i .i64 0)), (.c (.i .u64 0)), (.c (.b false)), (.c (.i .i64 0)), (.c (.i .u64 0))])])
  (.lt (.bin .eql (.v 13) (.c (.i .i64 3))) (.ite (.v 41)
  (.ite (.v 31)
  (.ret [(true, (vr 0 13)), (true, [(.c (.i .i64 6)), (.c (.i .i64 0)), (.c (.i .u64 0)), (.c (.b false)), (.c (.i .i64 0)), (.c (.i .u64 0))])])
  (.call 47 [(false, [(.v 8)]), (true, (vr 15 7 ++ [(.c (.b false))]))] [(false, 1)]
  (.call 28 [(true, (vr 0 13)), (false, [(.v 14)]), (false, [(.v 42)])] [(true, 13)]
  (.call 26 [(true, (vr 43 13))] [(false, 1)]
  (.lt (.bin .gtr (.v 56) (.v 1)) (.ite (.v 57)
  (.ret [(true, (vr 0 13)), (true, [(.c (.i .i64 8)), (.c (.i .i64 0)), (.c (.i .u64 0)), (.c (.b false)), (.c (.i .i64 0)), (.c (.i .u64 0))])])
  (.ret [(true, (vr 43 13)), (true, [(.c (.i .i64 0)), (.c (.i .i64 0)), (.c (.i .u64 0)), (.c (.b false)), (.c (.i .i64 0)), (.c (.i .u64 0))])])))))))
  (.lt (.un .not (.v 31)) (.ite (.v 42)
  (.ret [(true, (vr 0 13)), (true, [(.c (.i .i64 7)), (.c (.i .i64 0)), (.c (.i .u64 0)), (.c (.b false)), (.c (.i .i64 0)), (.c (.i .u64 0))])])
  (.call 22 [(false, [(.v 8)]), (false, [(.v 15)]), (false, [(.v 17)])] [(false, 1)]
  (.call 28 [(true, (vr 0 13)), (false, [(.v 14)]), (false, [(.v 43)])] [(true, 13)]
  (.call 26 [(true, (vr 44 13))] [(false, 1)]
  (.lt (.bin .gtr (.v 57) (.v 1)) (.ite (.v 58)
  (.ret [(true, (vr 0 13)), (true, [(.c (.i .i64 8)), (.c (.i .i64 0)), (.c (.i .u64 0)), (.c (.b false)), (.c (.i .i64 0)), (.c (.i .u64 0))])])
  (.loop [(.c (.i .i64 0)), (.c (.sl 0 []))]
  (.lt (.len (.v 43)) (.lt (.bin .lss (.v 59) (.v 61)) (.ite (.v 62)
  (.chk (.inb (.v 43) (.v 59) 8) (.call 41 [(true, (idr (.v 43) (.v 59) 0 8)), (true, [(.v 15), (.c (.i .u64 0)), (.v 17), (.c (.b false)), (.c (.b false)), (.c (.b false)), (.c (.b false)), (.c (.b false))])] [(false, 1)]
  (.ite (.v 63)
  (.lt (.bin .eql (.v 13) (.c (.i .i64 4))) (.ite (.v 64)
  (.lt (.bin .add (.v 59) (.c (.i .i64 1))) (.cont 0 [(.v 65), (.v 60)]))
  (.chk (.room (.len (.app 8 (.v 60) (.one ([(.idx (.v 43) (.v 59) 0), (.idx (.v 43) (.v 59) 1), (.idx (.v 43) (.v 59) 2)] ++ vr 18 4 ++ [(.idx (.v 43) (.v 59) 7)])))) 33) (.lt (.bin .add (.v 59) (.c (.i .i64 1))) (.cont 0 [(.v 65), (.app 8 (.v 60) (.one ([(.idx (.v 43) (.v 59) 0), (.idx (.v 43) (.v 59) 1), (.idx (.v 43) (.v 59) 2)] ++ vr 18 4 ++ [(.idx (.v 43) (.v 59) 7)])))])))))
  (.chk (.room (.len (.app 8 (.v 60) (.one (idr (.v 43) (.v 59) 0 8)))) 33) (.lt (.bin .add (.v 59) (.c (.i .i64 1))) (.cont 0 [(.v 64), (.app 8 (.v 60) (.one (idr (.v 43) (.v 59) 0 8)))]))))))
  (.call 28 [(true, (vr 0 13)), (false, [(.v 14)]), (false, [(.v 60)])] [(true, 13)]
  (.ret [(true, (vr 63 13)), (true, [(.c (.i .i64 0)), (.c (.i .i64 0)), (.c (.i .u64 0)), (.c (.b false)), (.c (.i .i64 0)), (.c (.i .u64 0))])]))))))))))))))))))
  (.lt (.bin .eql (.v 13) (.c (.i .i64 3))) (.ite (.v 39)
  (.ite (.v 31)
  (.ret [(true, (vr 0 13)), (true, [(.c (.i .i64 6)), (.c (.i .i64 0)), (.c (.i .u64 0)), (.c (.b false)), (.c (.i .i64 0)), (.c (.i .u64 0))])])
  (.call 47 [(false, [(.v 8)]), (true, (vr 15 7 ++ [(.c (.b false))]))] [(false, 1)]
  (.call 28 [(true, (vr 0 13)), (false, [(.v 14)]), (false, [(.v 40)])] [(true, 13)]
  (.call 26 [(true, (vr 41 13))] [(false, 1)]
  (.lt (.bin .gtr (.v 54) (.v 1)) (.ite (.v 55)
  (.ret [(true, (vr 0 13)), (true, [(.c (.i .i64 8)), (.c (.i .i64 0)), (.c (.i .u64 0)), (.c (.b false)), (.c (.i .i64 0)), (.c (.i .u64 0))])])
  (.ret [(true, (vr 41 13)), (true, [(.c (.i .i64 0)), (.c (.i .i64 0)), (.c (.i .u64 0)), (.c (.b false)), (.c (.i .i64 0)), (.c (.i .u64 0))])])))))))
  (.lt (.un .not (.v 31)) (.ite (.v 40)
  (.ret [(true, (vr 0 13)), (true, [(.c (.i .i64 7)), (.c (.i .i64 0)), (.c (.i .u64 0)), (.c (.b false)), (.c (.i .i64 0)), (.c (.i .u64 0))])])
  (.call 22 [(false, [(.v 8)]), (false, [(.v 15)]), (false, [(.v 17)])] [(false, 1)]
  (.call 28 [(true, (vr 0 13)), (false, [(.v 14)]), (false, [(.v 41)])] [(true, 13)]
  (.call 26 [(true, (vr 42 13))] [(false, 1)]
  (.lt (.bin .gtr (.v 55) (.v 1)) (.ite (.v 56)
  (.ret [(true, (vr 0 13)), (true, [(.c (.i .i64 8)), (.c (.i .i64 0)), (.c (.i .u64 0)), (.c (.b false)), (.c (.i .i64 0)), (.c (.i .u64 0))])])
  (.loop [(.c (.i .i64 0)), (.c (.sl 0 []))]
  (.lt (.len (.v 41)) (.lt (.bin .lss (.v 57) (.v 59)) (.ite (.v 60)
  (.chk (.inb (.v 41) (.v 57) 8) (.call 41 [(true, (idr (.v 41) (.v 57) 0 8)), (true, [(.v 15), (.c (.i .u64 0)), (.v 17), (.c (.b false)), (.c (.b false)), (.c (.b false)), (.c (.b false)), (.c (.b false))])] [(false, 1)]
  (.ite (.v 61)
  (.lt (.bin .eql (.v 13) (.c (.i .i64 4))) (.ite (.v 62)
  (.lt (.bin .add (.v 57) (.c (.i .i64 1))) (.cont 0 [(.v 63), (.v 58)]))
  (.chk (.room (.len (.app 8 (.v 58) (.one ([(.idx (.v 41) (.v 57) 0), (.idx (.v 41) (.v 57) 1), (.idx (.v 41) (.v 57) 2)] ++ vr 18 4 ++ [(.idx (.v 41) (.v 57) 7)])))) 33) (.lt (.bin .add (.v 57) (.c (.i .i64 1))) (.cont 0 [(.v 63), (.app 8 (.v 58) (.one ([(.idx (.v 41) (.v 57) 0), (.idx (.v 41) (.v 57) 1), (.idx (.v 41) (.v 57) 2)] ++ vr 18 4 ++ [(.idx (.v 41) (.v 57) 7)])))])))))
  (.chk (.room (.len (.app 8 (.v 58) (.one (idr (.v 41) (.v 57) 0 8)))) 33) (.lt (.bin .add (.v 57) (.c (.i .i64 1))) (.cont 0 [(.v 62), (.app 8 (.v 58) (.one (idr (.v 41) (.v 57) 0 8)))]))))))
  (.call 28 [(true, (vr 0 13)), (false, [(.v 14)]), (false, [(.v 58)])] [(true, 13)]
  (.ret [(true, (vr 61 13)), (true, [(.c (.i .i64 0)), (.c (.i .i64 0)), (.c (.i .u64 0)), (.c (.b false)), (.c (.i .i64 0)), (.c (.i .u64 0))])])))))))))))))))))))))))))
  (.lt (.bin .neq (.v 13) (.c (.i .i64 4))) (.ite (.v 33)
  (.call 46 [(true, (vr 18 4))] [(false, 1)]
  (.lt (.un .not (.v 34)) (.ite (.v 35)
  (.ret [(true, (vr 0 13)), (true, [(.c (.i .i64 5)), (.c (.i .i64 0)), (.c (.i .u64 0)), (.c (.b false)), (.c (.i .i64 0)), (.c (.i .u64 0))])])
  (.lt (.bin .eql (.v 13) (.c (.i .i64 3))) (.ite (.v 36)
  (.ite (.v 31)
  (.ret [(true, (vr 0 13)), (true, [(.c (.i .i64 6)), (.c (.i .i64 0)), (.c (.i .u64 0)), (.c (.b false)), (.c (.i .i64 0)), (.c (.i .u64 0))])])
  (.call 47 [(false, [(.v 8)]), (true, (vr 15 7 ++ [(.c (.b false))]))] [(false, 1)]
  (.call 28 [(true, (vr 0 13)), (false, [(.v 14)]), (false, [(.v 37)])] [(true, 13)]
  (.call 26 [(true, (vr 38 13))] [(false, 1)]
  (.lt (.bin .gtr (.v 51) (.v 1)) (.ite (.v 52)
  (.ret [(true, (vr 0 13)), (true, [(.c (.i .i64 8)), (.c (.i .i64 0)), (.c (.i .u64 0)), (.c (.b false)), (.c (.i .i64 0)), (.c (.i .u64 0))])])
  (.ret [(true, (vr 38 13)), (true, [(.c (.i .i64 0)), (.c (.i .i64 0)), (.c (.i .u64 0)), (.c (.b false)), (.c (.i .i64 0)), (.c (.i .u64 0))])])))))))
  (.lt (.un .not (.v 31)) (.ite (.v 37)
  (.ret [(true, (vr 0 13)), (true, [(.c (.i .i64 7)), (.c (.i .i64 0)), (.c (.i .u64 0)), (.c (.b false)), (.c (.i .i64 0)), (.c (.i .u64 0))])])
  (.call 22 [(false, [(.v 8)]), (false, [(.v 15)]), (false, [(.v 17)])] [(false, 1)]
  (.call 28 [(true, (vr 0 13)), (false, [(.v 14)]), (false, [(.v 38)])] [(true, 13)]
  (.call 26 [(true, (vr 39 13))] [(false, 1)]
  (.lt (.bin .gtr (.v 52) (.v 1)) (.ite (.v 53)
  (.ret [(true, (vr 0 13)), (true, [(.c (.i .i64 8)), (.c (.i .i64 0)), (.c (.i .u64 0)), (.c (.b false)), (.c (.i .i64 0)), (.c (.i .u64 0))])])
  (.loop [(.c (.i .i64 0)), (.c (.sl 0 []))]
  (.lt (.len (.v 38)) (.lt (.bin .lss (.v 54) (.v 56)) (.ite (.v 57)
  (.chk (.inb (.v 38) (.v 54) 8) (.call 41 [(true, (idr (.v 38) (.v 54) 0 8)), (true, [(.v 15), (.c (.i .u64 0)), (.v 17), (.c (.b false)), (.c (.b false)), (.c (.b false)), (.c (.b false)), (.c (.b false))])] [(false, 1)]
  (.ite (.v 58)
  (.lt (.bin .eql (.v 13) (.c (.i .i64 4))) (.ite (.v 59)
  (.lt (.bin .add (.v 54) (.c (.i .i64 1))) (.cont 0 [(.v 60), (.v 55)]))
  (.chk (.room (.len (.app 8 (.v 55) (.one ([(.idx (.v 38) (.v 54) 0), (.idx (.v 38) (.v 54) 1), (.idx (.v 38) (.v 54) 2)] ++ vr 18 4 ++ [(.idx (.v 38) (.v 54) 7)])))) 33) (.lt (.bin .add (.v 54) (.c (.i .i64 1))) (.cont 0 [(.v 60), (.app 8 (.v 55) (.one ([(.idx (.v 38) (.v 54) 0), (.idx (.v 38) (.v 54) 1), (.idx (.v 38) (.v 54) 2)] ++ vr 18 4 ++ [(.idx (.v 38) (.v 54) 7)])))])))))
  (.chk (.room (.len (.app 8 (.v 55) (.one (idr (.v 38) (.v 54) 0 8)))) 33) (.lt (.bin .add (.v 54) (.c (.i .i64 1))) (.cont 0 [(.v 59), (.app 8 (.v 55) (.one (idr (.v 38) (.v 54) 0 8)))]))))))
  (.call 28 [(true, (vr 0 13)), (false, [(.v 14)]), (false, [(.v 55)])] [(true, 13)]
  (.ret [(true, (vr 58 13)), (true, [(.c (.i .i64 0)), (.c (.i .i64 0)), (.c (.i .u64 0)), (.c (.b false)), (.c (.i .i64 0)), (.c (.i .u64 0))])]))))))))))))))))))
  (.lt (.bin .eql (.v 13) (.c (.i .i64 3))) (.ite (.v 34)
  (.ite (.v 31)
  (.ret [(true, (vr 0 13)), (true, [(.c (.i .i64 6)), (.c (.i .i64 0)), (.c (.i .u64 0)), (.c (.b false)), (.c (.i .i64 0)), (.c (.i .u64 0))])])
  (.call 47 [(false, [(.v 8)]), (true, (vr 15 7 ++ [(.c (.b false))]))] [(false, 1)]
  (.call 28 [(true, (vr 0 13)), (false, [(.v 14)]), (false, [(.v 35)])] [(true, 13)]
  (.call 26 [(true, (vr 36 13))] [(false, 1)]
  (.lt (.bin .gtr (.v 49) (.v 1)) (.ite (.v 50)
  (.ret [(true, (vr 0 13)), (true, [(.c (.i .i64 8)), (.c (.i .i64 0)), (.c (.i .u64 0)), (.c (.b false)), (.c (.i .i64 0)), (.c (.i .u64 0))])])
  (.ret [(true, (vr 36 13)), (true, [(.c (.i .i64 0)), (.c (.i .i64 0)), (.c (.i .u64 0)), (.c (.b false)), (.c (.i .i64 0)), (.c (.i .u64 0))])])))))))
  (.lt (.un .not (.v 31)) (.ite (.v 35)
  (.ret [(true, (vr 0 13)), (true, [(.c (.i .i64 7)), (.c (.i .i64 0)), (.c (.i .u64 0)), (.c (.b false)), (.c (.i .i64 0)), (.c (.i .u64 0))])])
  (.call 22 [(false, [(.v 8)]), (false, [(.v 15)]), (false, [(.v 17)])] [(false, 1)]
  (.call 28 [(true, (vr 0 13)), (false, [(.v 14)]), (false, [(.v 36)])] [(true, 13)]
  (.call 26 [(true, (vr 37 13))] [(false, 1)]
  (.lt (.bin .gtr (.v 50) (.v 1)) (.ite (.v 51)
  (.ret [(true, (vr 0 13)), (true, [(.c (.i .i64 8)), (.c (.i .i64 0)), (.c (.i .u64 0)), (.c (.b false)), (.c (.i .i64 0)), (.c (.i .u64 0))])])
  (.loop [(.c (.i .i64 0)), (.c (.sl 0 []))]
  (.lt (.len (.v 36)) (.lt (.bin .lss (.v 52) (.v 54)) (.ite (.v 55)
  (.chk (.inb (.v 36) (.v 52) 8) (.call 41 [(true, (idr (.v 36) (.v 52) 0 8)), (true, [(.v 15), (.c (.i .u64 0)), (.v 17), (.c (.b false)), (.c (.b false)), (.c (.b false)), (.c (.b false)), (.c (.b false))])] [(false, 1)]
  (.ite (.v 56)
  (.lt (.bin .eql (.v 13) (.c (.i .i64 4))) (.ite (.v 57)
  (.lt (.bin .add (.v 52) (.c (.i .i64 1))) (.cont 0 [(.v 58), (.v 53)]))
  (.chk (.room (.len (.app 8 (.v 53) (.one ([(.idx (.v 36) (.v 52) 0), (.idx (.v 36) (.v 52) 1), (.idx (.v 36) (.v 52) 2)] ++ vr 18 4 ++ [(.idx (.v 36) (.v 52) 7)])))) 33) (.lt (.bin .add (.v 52) (.c (.i .i64 1))) (.cont 0 [(.v 58), (.app 8 (.v 53) (.one ([(.idx (.v 36) (.v 52) 0), (.idx (.v 36) (.v 52) 1), (.idx (.v 36) (.v 52) 2)] ++ vr 18 4 ++ [(.idx (.v 36) (.v 52) 7)])))])))))
  (.chk (.room (.len (.app 8 (.v 53) (.one (idr (.v 36) (.v 52) 0 8)))) 33) (.lt (.bin .add (.v 52) (.c (.i .i64 1))) (.cont 0 [(.v 57), (.app 8 (.v 53) (.one (idr (.v 36) (.v 52) 0 8)))]))))))
  (.call 28 [(true, (vr 0 13)), (false, [(.v 14)]), (false, [(.v 53)])] [(true, 13)]
  (.ret [(true, (vr 56 13)), (true, [(.c (.i .i64 0)), (.c (.i .i64 0)), (.c (.i .u64 0)), (.c (.b false)), (.c (.i .i64 0)), (.c (.i .u64 0))])])))))))))))))))))))))))
  (.chk (.inb (.v 6) (.v 14) 1) (.call 43 [(false, [(.v 17)])] [(false, 1)]
  (.call 21 [(false, [(.idx (.v 6) (.v 14) 0)]), (false, [(.v 15)]), (false, [(.v 17)])] [(false, 1)]
  (.lt (.len (.v 29)) (.lt (.bin .gtr (.v 30) (.c (.i .i64 0))) (.lt (.bin .eql (.v 13) (.c (.i .i64 3))) (.ite (.v 32)
  (.lt (.bin .rem (.v 16) (.v 28)) (.lt (.bin .neq (.v 33) (.c (.i .u64 0))) (.ite (.v 34)
  (.ret [(true, (vr 0 13)), (true, [(.c (.i .i64 2)), (.c (.i .i64 0)), (.c (.i .u64 0)), (.c (.b false)), (.c (.i .i64 0)), (.c (.i .u64 0))])])
  (.lt (.bin .gtr (.v 28) (.v 4)) (.ite (.v 35)
  (.ret [(true, (vr 0 13)), (true, [(.c (.i .i64 3)), (.c (.i .i64 0)), (.c (.i .u64 0)), (.c (.b false)), (.c (.i .i64 0)), (.c (.i .u64 0))])])
  (.lt (.bin .sub (.v 4) (.v 28)) (.lt (.bin .gtr (.v 16) (.v 36)) (.ite (.v 37)
  (.ret [(true, (vr 0 13)), (true, [(.c (.i .i64 3)), (.c (.i .i64 0)), (.c (.i .u64 0)), (.c (.b false)), (.c (.i .i64 0)), (.c (.i .u64 0))])])
  (.lt (.bin .neq (.v 13) (.c (.i .i64 4))) (.ite (.v 38)
  (.call 46 [(true, (vr 18 4))] [(false, 1)]
  (.lt (.un .not (.v 39)) (.ite (.v 40)
  (.ret [(true, (vr 0 13)), (true, [(.c (.i .i64 5)), (.c (.i .i64 0)), (.c (.i .u64 0)), (.c (.b false)), (.c (.i .i64 0)), (.c (.i .u64 0))])])
  (.lt (.bin .eql (.v 13) (.c (.i .i64 3))) (.ite (.v 41)
  (.ite (.v 31)
  (.ret [(true, (vr 0 13)), (true, [(.c (.i .i64 6)), (.c (.i .i64 0)), (.c (.i .u64 0)), (.c (.b false)), (.c (.i .i64 0)), (.c (.i .u64 0))])])
  (.call 47 [(false, [(.idx (.v 6) (.v 14) 0)]), (true, (vr 15 7 ++ [(.c (.b false))]))] [(false, 1)]
  (.call 28 [(true, (vr 0 13)), (false, [(.v 14)]), (false, [(.v 42)])] [(true, 13)]
  (.call 26 [(true, (vr 43 13))] [(false, 1)]
  (.lt (.bin .gtr (.v 56) (.v 1)) (.ite (.v 57)
  (.ret [(true, (vr 0 13)), (true, [(.c (.i .i64 8)), (.c (.i .i64 0)), (.c (.i .u64 0)), (.c (.b false)), (.c (.i .i64 0)), (.c (.i .u64 0))])])
  (.ret [(true, (vr 43 13)), (true, [(.c (.i .i64 0)), (.c (.i .i64 0)), (.c (.i .u64 0)), (.c (.b false)), (.c (.i .i64 0)), (.c (.i .u64 0))])])))))))
  (.lt (.un .not (.v 31)) (.ite (.v 42)
  (.ret [(true, (vr 0 13)), (true, [(.c (.i .i64 7)), (.c (.i .i64 0)), (.c (.i .u64 0)), (.c (.b false)), (.c (.i .i64 0)), (.c (.i .u64 0))])])
  (.call 22 [(false, [(.idx (.v 6) (.v 14) 0)]), (false, [(.v 15)]), (false, [(.v 17)])] [(false, 1)]
  (.call 28 [(true, (vr 0 13)), (false, [(.v 14)]), (false, [(.v 43)])] [(true, 13)]
  (.call 26 [(true, (vr 44 13))] [(false, 1)]
  (.lt (.bin .gtr (.v 57) (.v 1)) (.ite (.v 58)
  (.ret [(true, (vr 0 13)), (true, [(.c (.i .i64 8)), (.c (.i .i64 0)), (.c (.i .u64 0)), (.c (.b false)), (.c (.i .i64 0)), (.c (.i .u64 0))])])
  (.loop [(.c (.i .i64 0)), (.c (.sl 0 []))]
  (.lt (.len (.v 43)) (.lt (.bin .lss (.v 59) (.v 61)) (.ite (.v 62)
  (.chk (.inb (.v 43) (.v 59) 8) (.call 41 [(true, (idr (.v 43) (.v 59) 0 8)), (true, [(.v 15), (.c (.i .u64 0)), (.v 17), (.c (.b false)), (.c (.b false)), (.c (.b false)), (.c (.b false)), (.c (.b false))])] [(false, 1)]
  (.ite (.v 63)
  (.lt (.bin .eql (.v 13) (.c (.i .i64 4))) (.ite (.v 64)
  (.lt (.bin .add (.v 59) (.c (.i .i64 1))) (.cont 0 [(.v 65), (.v 60)]))
  (.chk (.room (.len (.app 8 (.v 60) (.one ([(.idx (.v 43) (.v 59) 0), (.idx (.v 43) (.v 59) 1), (.idx (.v 43) (.v 59) 2)] ++ vr 18 4 ++ [(.idx (.v 43) (.v 59) 7)])))) 33) (.lt (.bin .add (.v 59) (.c (.i .i64 1))) (.cont 0 [(.v 65), (.app 8 (.v 60) (.one ([(.idx (.v 43) (.v 59) 0), (.idx (.v 43) (.v 59) 1), (.idx (.v 43) (.v 59) 2)] ++ vr 18 4 ++ [(.idx (.v 43) (.v 59) 7)])))])))))
  (.chk (.room (.len (.app 8 (.v 60) (.one (idr (.v 43) (.v 59) 0 8)))) 33) (.lt (.bin .add (.v 59) (.c (.i .i64 1))) (.cont 0 [(.v 64), (.app 8 (.v 60) (.one (idr (.v 43) (.v 59) 0 8)))]))))))
  (.call 28 [(true, (vr 0 13)), (false, [(.v 14)]), (false, [(.v 60)])] [(true, 13)]
  (.ret [(true, (vr 63 13)), (true, [(.c (.i .i64 0)), (.c (.i .i64 0)), (.c (.i .u64 0)), (.c (.b false)), (.c (.i .i64 0)), (.c (.i .u64 0))])]))))))))))))))))))
  (.lt (.bin .eql (.v 13) (.c (.i .i64 3))) (.ite (.v 39)
  (.ite (.v 31)
  (.ret [(true, (vr 0 13)), (true, [(.c (.i .i64 6)), (.c (.i .i64 0)), (.c (.i .u64 0)), (.c (.b false)), (.c (.i .i64 0)), (.c (.i .u64 0))])])
  (.call 47 [(false, [(.idx (.v 6) (.v 14) 0)]), (true, (vr 15 7 ++ [(.c (.b false))]))] [(false, 1)]
  (.call 28 [(true, (vr 0 13)), (false, [(.v 14)]), (false, [(.v 40)])] [(true, 13)]
  (.call 26 [(true, (vr 41 13))] [(false, 1)]
  (.lt (.bin .gtr (.v 54) (.v 1)) (.ite (.v 55)
  (.ret [(true, (vr 0 13)), (true, [(.c (.i .i64 8)), (.c (.i .i64 0)), (.c (.i .u64 0)), (.c (.b false)), (.c (.i .i64 0)), (.c (.i .u64 0))])])
  (.ret [(true, (vr 41 13)), (true, [(.c (.i .i64 0)), (.c (.i .i64 0)), (.c (.i .u64 0)), (.c (.b false)), (.c (.i .i64 0)), (.c (.i .u64 0))])])))))))
  (.lt (.un .not (.v 31)) (.ite (.v 40)
  (.ret [(true, (vr 0 13)), (true, [(.c (.i .i64 7)), (.c (.i .i64 0)), (.c (.i .u64 0)), (.c (.b false)), (.c (.i .i64 0)), (.c (.i .u64 0))])])
  (.call 22 [(false, [(.idx (.v 6) (.v 14) 0)]), (false, [(.v 15)]), (false, [(.v 17)])] [(false, 1)]
  (.call 28 [(true, (vr 0 13)), (false, [(.v 14)]), (false, [(.v 41)])] [(true, 13)]
  (.call 26 [(true, (vr 42 13))] [(false, 1)]
  (.lt (.bin .gtr (.v 55) (.v 1)) (.ite (.v 56)
  (.ret [(true, (vr 0 13)), (true, [(.c (.i .i64 8)), (.c (.i .i64 0)), (.c (.i .u64 0)), (.c (.b false)), (.c (.i .i64 0)), (.c (.i .u64 0))])])
  (.loop [(.c (.i .i64 0)), (.c (.sl 0 []))]
  (.lt (.len (.v 41)) (.lt (.bin .lss (.v 57) (.v 59)) (.ite (.v 60)
  (.chk (.inb (.v 41) (.v 57) 8) (.call 41 [(true, (idr (.v 41) (.v 57) 0 8)), (true, [(.v 15), (.c (.i .u64 0)), (.v 17), (.c (.b false)), (.c (.b false)), (.c (.b false)), (.c (.b false)), (.c (.b false))])] [(false, 1)]
  (.ite (.v 61)
  (.lt (.bin .eql (.v 13) (.c (.i .i64 4))) (.ite (.v 62)
  (.lt (.bin .add (.v 57) (.c (.i .i64 1))) (.cont 0 [(.v 63), (.v 58)]))
  (.chk (.room (.len (.app 8 (.v 58) (.one ([(.idx (.v 41) (.v 57) 0), (.idx (.v 41) (.v 57) 1), (.idx (.v 41) (.v 57) 2)] ++ vr 18 4 ++ [(.idx (.v 41) (.v 57) 7)])))) 33) (.lt (.bin .add (.v 57) (.c (.i .i64 1))) (.cont 0 [(.v 63), (.app 8 (.v 58) (.one ([(.idx (.v 41) (.v 57) 0), (.idx (.v 41) (.v 57) 1), (.idx (.v 41) (.v 57) 2)] ++ vr 18 4 ++ [(.idx (.v 41) (.v 57) 7)])))])))))
  (.chk (.room (.len (.app 8 (.v 58) (.one (idr (.v 41) (.v 57) 0 8)))) 33) (.lt (.bin .add (.v 57) (.c (.i .i64 1))) (.cont 0 [(.v 62), (.app 8 (.v 58) (.one (idr (.v 41) (.v 57) 0 8)))]))))))
  (.call 28 [(true, (vr 0 13)), (false, [(.v 14)]), (false, [(.v 58)])] [(true, 13)]
  (.ret [(true, (vr 61 13)), (true, [(.c (.i .i64 0)), (.c (.i .i64 0)), (.c (.i .u64 0)), (.c (.b false)), (.c (.i .i64 0)), (.c (.i .u64 0))])])))))))))))))))))))))))))
  (.lt (.bin .neq (.v 13) (.c (.i .i64 4))) (.ite (.v 33)
  (.call 46 [(true, (vr 18 4))] [(false, 1)]
  (.lt (.un .not (.v 34)) (.ite (.v 35)
  (.ret [(true, (vr 0 13)), (true, [(.c (.i .i64 5)), (.c (.i .i64 0)), (.c (.i .u64 0)), (.c (.b false)), (.c (.i .i64 0)), (.c (.i .u64 0))])])
  (.lt (.bin .eql (.v 13) (.c (.i .i64 3))) (.ite (.v 36)
  (.ite (.v 31)
  (.ret [(true, (vr 0 13)), (true, [(.c (.i .i64 6)), (.c (.i .i64 0)), (.c (.i .u64 0)), (.c (.b false)), (.c (.i .i64 0)), (.c (.i .u64 0))])])
  (.call 47 [(false, [(.idx (.v 6) (.v 14) 0)]), (true, (vr 15 7 ++ [(.c (.b false))]))] [(false, 1)]
  (.call 28 [(true, (vr 0 13)), (false, [(.v 14)]), (false, [(.v 37)])] [(true, 13)]
  (.call 26 [(true, (vr 38 13))] [(false, 1)]
  (.lt (.bin .gtr (.v 51) (.v 1)) (.ite (.v 52)
  (.ret [(true, (vr 0 13)), (true, [(.c (.i .i64 8)), (.c (.i .i64 0)), (.c (.i .u64 0)), (.c (.b false)), (.c (.i .i64 0)), (.c (.i .u64 0))])])
  (.ret [(true, (vr 38 13)), (true, [(.c (.i .i64 0)), (.c (.i .i64 0)), (.c (.i .u64 0)), (.c (.b false)), (.c (.i .i64 0)), (.c (.i .u64 0))])])))))))
  (.lt (.un .not (.v 31)) (.ite (.v 37)
  (.ret [(true, (vr 0 13)), (true, [(.c (.i .i64 7)), (.c (.i .i64 0)), (.c (.i .u64 0)), (.c (.b false)), (.c (.i .i64 0)), (.c (.i .u64 0))])])
  (.call 22 [(false, [(.idx (.v 6) (.v 14) 0)]), (false, [(.v 15)]), (false, [(.v 17)])] [(false, 1)]
  (.call 28 [(true, (vr 0 13)), (false, [(.v 14)]), (false, [(.v 38)])] [(true, 13)]
  (.call 26 [(true, (vr 39 13))] [(false, 1)]
  (.lt (.bin .gtr (.v 52) (.v 1)) (.ite (.v 53)
  (.ret [(true, (vr 0 13)), (true, [(.c (.i .i64 8)), (.c (.i .i64 0)), (.c (.i .u64 0)), (.c (.b false)), (.c (.i .i64 0)), (.c (.i .u64 0))])])
  (.loop [(.c (.i .i64 0)), (.c (.sl 0 []))]
  (.lt (.len (.v 38)) (.lt (.bin .lss (.v 54) (.v 56)) (.ite (.v 57)
  (.chk (.inb (.v 38) (.v 54) 8) (.call 41 [(true, (idr (.v 38) (.v 54) 0 8)), (true, [(.v 15), (.c (.i .u64 0)), (.v 17), (.c (.b false)), (.c (.b false)), (.c (.b false)), (.c (.b false)), (.c (.b false))])] [(false, 1)]
  (.ite (.v 58)
  (.lt (.bin .eql (.v 13) (.c (.i .i64 4))) (.ite (.v 59)
  (.lt (.bin .add (.v 54) (.c (.i .i64 1))) (.cont 0 [(.v 60), (.v 55)]))
  (.chk (.room (.len (.app 8 (.v 55) (.one ([(.idx (.v 38) (.v 54) 0), (.idx (.v 38) (.v 54) 1), (.idx (.v 38) (.v 54) 2)] ++ vr 18 4 ++ [(.idx (.v 38) (.v 54) 7)])))) 33) (.lt (.bin .add (.v 54) (.c (.i .i64 1))) (.cont 0 [(.v 60), (.app 8 (.v 55) (.one ([(.idx (.v 38) (.v 54) 0), (.idx (.v 38) (.v 54) 1), (.idx (.v 38) (.v 54) 2)] ++ vr 18 4 ++ [(.idx (.v 38) (.v 54) 7)])))])))))
  (.chk (.room (.len (.app 8 (.v 55) (.one (idr (.v 38) (.v 54) 0 8)))) 33) (.lt (.bin .add (.v 54) (.c (.i .i64 1))) (.cont 0 [(.v 59), (.app 8 (.v 55) (.one (idr (.v 38) (.v 54) 0 8)))]))))))
  (.call 28 [(true, (vr 0 13)), (false, [(.v 14)]), (false, [(.v 55)])] [(true, 13)]
  (.ret [(true, (vr 58 13)), (true, [(.c (.i .i64 0)), (.c (.i .i64 0)), (.c (.i .u64 0)), (.c (.b false)), (.c (.i .i64 0)), (.c (.i .u64 0))])]))))))))))))))))))
  (.lt (.bin .eql (.v 13) (.c (.i .i64 3))) (.ite (.v 34)
  (.ite (.v 31)
  (.ret [(true, (vr 0 13)), (true, [(.c (.i .i64 6)), (.c (.i .i64 0)), (.c (.i .u64 0)), (.c (.b false)), (.c (.i .i64 0)), (.c (.i .u64 0))])])
  (.call 47 [(false, [(.idx (.v 6) (.v 14) 0)]), (true, (vr 15 7 ++ [(.c (.b false))]))] [(false, 1)]
  (.call 28 [(true, (vr 0 13)), (false, [(.v 14)]), (false, [(.v 35)])] [(true, 13)]
  (.call 26 [(true, (vr 36 13))] [(false, 1)]
  (.lt (.bin .gtr (.v 49) (.v 1)) (.ite (.v 50)
  (.ret [(true, (vr 0 13)), (true, [(.c (.i .i64 8)), (.c (.i .i64 0)), (.c (.i .u64 0)), (.c (.b false)), (.c (.i .i64 0)), (.c (.i .u64 0))])])
  (.ret [(true, (vr 36 13)), (true, [(.c (.i .i64 0)), (.c (.i .i64 0)), (.c (.i .u64 0)), (.c (.b false)), (.c (.i .i64 0)), (.c (.i .u64 0))])])))))))
  (.lt (.un .not (.v 31)) (.ite (.v 35)
  (.ret [(true, (vr 0 13)), (true, [(.c (.i .i64 7)), (.c (.i .i64 0)), (.c (.i .u64 0)), (.c (.b false)), (.c (.i .i64 0)), (.c (.i .u64 0))])])
  (.call 22 [(false, [(.idx (.v 6) (.v 14) 0)]), (false, [(.v 15)]), (false, [(.v 17)])] [(false, 1)]
  (.call 28 [(true, (vr 0 13)), (false, [(.v 14)]), (false, [(.v 36)])] [(true, 13)]
  (.call 26 [(true, (vr 37 13))] [(false, 1)]
  (.lt (.bin .gtr (.v 50) (.v 1)) (.ite (.v 51)
  (.ret [(true, (vr 0 13)), (true, [(.c (.i .i64 8)), (.c (.i .i64 0)), (.c (.i .u64 0)), (.c (.b false)), (.c (.i .i64 0)), (.c (.i .u64 0))])])
  (.loop [(.c (.i .i64 0)), (.c (.sl 0 []))]
  (.lt (.len (.v 36)) (.lt (.bin .lss (.v 52) (.v 54)) (.ite (.v 55)
  (.chk (.inb (.v 36) (.v 52) 8) (.call 41 [(true, (idr (.v 36) (.v 52) 0 8)), (true, [(.v 15), (.c (.i .u64 0)), (.v 17), (.c (.b false)), (.c (.b false)), (.c (.b false)), (.c (.b false)), (.c (.b false))])] [(false, 1)]
  (.ite (.v 56)
  (.lt (.bin .eql (.v 13) (.c (.i .i64 4))) (.ite (.v 57)
  (.lt (.bin .add (.v 52) (.c (.i .i64 1))) (.cont 0 [(.v 58), (.v 53)]))
  (.chk (.room (.len (.app 8 (.v 53) (.one ([(.idx (.v 36) (.v 52) 0), (.idx (.v 36) (.v 52) 1), (.idx (.v 36) (.v 52) 2)] ++ vr 18 4 ++ [(.idx (.v 36) (.v 52) 7)])))) 33) (.lt (.bin .add (.v 52) (.c (.i .i64 1))) (.cont 0 [(.v 58), (.app 8 (.v 53) (.one ([(.idx (.v 36) (.v 52) 0), (.idx (.v 36) (.v 52) 1), (.idx (.v 36) (.v 52) 2)] ++ vr 18 4 ++ [(.idx (.v 36) (.v 52) 7)])))])))))
  (.chk (.room (.len (.app 8 (.v 53) (.one (idr (.v 36) (.v 52) 0 8)))) 33) (.lt (.bin .add (.v 52) (.c (.i .i64 1))) (.cont 0 [(.v 57), (.app 8 (.v 53) (.one (idr (.v 36) (.v 52) 0 8)))]))))))
  (.call 28 [(true, (vr 0 13)), (false, [(.v 14)]), (false, [(.v 53)])] [(true, 13)]
  (.ret [(true, (vr 56 13)), (true, [(.c (.i .i64 0)), (.c (.i .i64 0)), (.c (.i .u64 0)), (.c (.b false)), (.c (.i .i64 0)), (.c (.i .u64 0))])])))))))))))))))))))))))))))))
theorem atlasref25_pages_c : compile envIrFr 3000 29 = .ok atlasref25_pages_ir := by kernel_rfl
theorem atlasref25_pages_p : paramShape Tryz.prog 29 = some [(true, 13), (true, 12)] := by kernel_rfl
theorem atlasref25_pages_k : Known gAll 29 (.ir [(true, 13), (true, 12)] atlasref25_pages_ir) := known_ir (E := envIrFr) (n := 3000) rfl rfl atlasref25_pages_c atlasref25_pages_p
/-- atlas/atlasref25.access -/
def atlasref25_access_ir : IR :=
  (.lt (.bin .lss (.v 22) (.c (.i .i64 0))) (.ite (.v 25)
  (.ret [(true, (vr 0 13)), (true, [(.c (.i .i64 1)), (.c (.i .i64 0)), (.c (.i .u64 0)), (.c (.b false)), (.c (.i .i64 0)), (.c (.i .u64 0))])])
  (.lt (.bin .gtr (.v 22) (.c (.i .i64 2))) (.ite (.v 26)
  (.ret [(true, (vr 0 13)), (true, [(.c (.i .i64 1)), (.c (.i .i64 0)), (.c (.i .u64 0)), (.c (.b false)), (.c (.i .i64 0)), (.c (.i .u64 0))])])
  (.call 48 [(false, [(.v 23)])] [(false, 1)]
  (.lt (.un .not (.v 27)) (.ite (.v 28)
  (.ret [(true, (vr 0 13)), (true, [(.c (.i .i64 1)), (.c (.i .i64 0)), (.c (.i .u64 0)), (.c (.b false)), (.c (.i .i64 0)), (.c (.i .u64 0))])])
  (.lt (.bin .eql (.v 9) (.c (.i .i64 (-1)))) (.ite (.v 29)
  (.ret [(true, (vr 0 13)), (true, [(.c (.i .i64 4)), (.c (.i .i64 0)), (.c (.i .u64 0)), (.c (.b false)), (.c (.i .i64 0)), (.c (.i .u64 0))])])
  (.lt (.cv .u64 (.v 23)) (.lt (.bin .rem (.v 15) (.v 30)) (.lt (.bin .neq (.v 31) (.c (.i .u64 0))) (.ite (.v 32)
  (.call 49 [(false, [(.c (.i .i64 1))]), (false, [(.v 22)]), (false, [(.v 15)])] [(true, 3)]
  (.ret [(true, (vr 0 13)), (true, [(.c (.i .i64 0)), (.c (.i .i64 0)), (.c (.i .u64 0)), (.v 33), (.v 34), (.v 35)])]))
  (.call 50 [(true, (vr 0 13)), (false, [(.v 15)])] [(true, 8), (false, 1)]
  (.lt (.un .not (.v 41)) (.ite (.v 42)
  (.call 49 [(false, [(.c (.i .i64 3))]), (false, [(.v 22)]), (false, [(.v 15)])] [(true, 3)]
  (.ret [(true, (vr 0 13)), (true, [(.c (.i .i64 0)), (.c (.i .i64 0)), (.c (.i .u64 0)), (.v 43), (.v 44), (.v 45)])]))
  (.call 51 [(true, (vr 36 4)), (true, [(.v 22), (.v 10), (.v 11), (.v 12)])] [(false, 1)]
  (.lt (.un .not (.v 43)) (.ite (.v 44)
  (.call 49 [(false, [(.c (.i .i64 3))]), (false, [(.v 22)]), (false, [(.v 15)])] [(true, 3)]
  (.ret [(true, (vr 0 13)), (true, [(.c (.i .i64 0)), (.c (.i .i64 0)), (.c (.i .u64 0)), (.v 45), (.v 46), (.v 47)])]))
  (.lt (.bin .sub (.v 15) (.v 33)) (.lt (.bin .add (.v 34) (.v 45)) (.lt (.bin .lss (.v 22) (.c (.i .i64 2))) (.ite (.v 47)
  (.call 52 [(true, [(.v 4), (.v 5)]), (false, [(.v 46)]), (false, [(.v 23)])] [(false, 1), (false, 1)]
  (.ret [(true, (vr 0 13)), (true, [(.c (.i .i64 0)), (.c (.i .i64 0)), (.v 48), (.c (.b false)), (.c (.i .i64 0)), (.c (.i .u64 0))])]))
  (.call 53 [(true, [(.v 4), (.v 5)]), (false, [(.v 46)]), (false, [(.v 23)]), (false, [(.v 24)])] [(true, 2), (false, 1)]
  (.call 54 [(false, [(.v 15)]), (false, [(.c (.i .i64 2))])] [(false, 1)]
  (.lt (.bin .eql (.v 51) (.c (.i .i64 511))) (.ite (.v 52)
  (.call 55 [(false, [(.v 8)]), (false, [(.v 15)])] [(false, 1)]
  (.call 28 [(true, (vr 0 4 ++ [(.v 48), (.v 49)] ++ vr 6 7)), (false, [(.c (.i .i64 (-1)))]), (false, [(.v 53)])] [(true, 13)]
  (.ret [(true, (vr 54 13)), (true, [(.c (.i .i64 0)), (.c (.i .i64 0)), (.c (.i .u64 0)), (.c (.b false)), (.c (.i .i64 0)), (.c (.i .u64 0))])])))
  (.chk (.inb (.v 6) (.v 9) 1) (.call 55 [(false, [(.idx (.v 6) (.v 9) 0)]), (false, [(.v 15)])] [(false, 1)]
  (.call 28 [(true, (vr 0 4 ++ [(.v 48), (.v 49)] ++ vr 6 7)), (false, [(.v 9)]), (false, [(.v 53)])] [(true, 13)]
  (.ret [(true, (vr 54 13)), (true, [(.c (.i .i64 0)), (.c (.i .i64 0)), (.c (.i .u64 0)), (.c (.b false)), (.c (.i .i64 0)), (.c (.i .u64 0))])])))))))))))))))))))))))))))))))
theorem atlasref25_access_c : compile envIrFr 3000 30 = .ok atlasref25_access_ir := by kernel_rfl
theorem atlasref25_access_p : paramShape Tryz.prog 30 = some [(true, 13), (true, 12)] := by kernel_rfl
theorem atlasref25_access_k : Known gAll 30 (.ir [(true, 13), (true, 12)] atlasref25_access_ir) := known_ir (E := envIrFr) (n := 3000) rfl rfl atlasref25_access_c atlasref25_access_p
/-- atlas/atlasref25.in -/
def atlasref25_in_ir : IR :=
  (.lt (.bin .geq (.v 8) (.v 0)) (.ite (.v 9)
  (.lt (.bin .sub (.v 8) (.v 0)) (.call 43 [(false, [(.v 2)])] [(false, 1)]
  (.lt (.bin .lss (.v 10) (.v 11)) (.ret [(false, [(.v 12)])]))))
  (.ret [(false, [(.c (.b false))])])))
theorem atlasref25_in_c : compile envIrFr 3000 42 = .ok atlasref25_in_ir := by kernel_rfl
theorem atlasref25_in_p : paramShape Tryz.prog 42 = some [(true, 8), (false, 1)] := by kernel_rfl
theorem atlasref25_in_k : Known gAll 42 (.ir [(true, 8), (false, 1)] atlasref25_in_ir) := known_ir (E := envIrFr) (n := 3000) rfl rfl atlasref25_in_c atlasref25_in_p
/-- atlas/atlasref25.need -/
def atlasref25_need_ir : IR :=
  (.loop [(.c (.i .i64 0)), (.c (.sl 0 [])), (.c (.sl 0 []))]
  (.lt (.len (.v 0)) (.lt (.bin .lss (.v 2) (.v 5)) (.ite (.v 6)
  (.chk (.inb (.v 0) (.v 2) 8) (.call 54 [(false, [(.idx (.v 0) (.v 2) 0)]), (false, [(.c (.i .i64 2))])] [(false, 1)]
  (.lt (.bin .mul (.c (.i .i64 512)) (.v 7)) (.chk (.inb (.v 0) (.v 2) 8) (.call 54 [(false, [(.idx (.v 0) (.v 2) 0)]), (false, [(.c (.i .i64 1))])] [(false, 1)]
  (.lt (.bin .add (.v 8) (.v 9)) (.chk (.inb (.v 0) (.v 2) 8) (.lt (.bin .lss (.idx (.v 0) (.v 2) 2) (.c (.i .i64 2))) (.ite (.v 11)
  (.lt (.bin .eql (.len (.v 3)) (.c (.i .i64 0))) (.ite (.v 12)
  (.chk (.room (.len (.app 1 (.v 3) (.one [(.v 7)]))) 9) (.chk (.inb (.v 0) (.v 2) 8) (.lt (.bin .eql (.idx (.v 0) (.v 2) 2) (.c (.i .i64 0))) (.ite (.v 13)
  (.lt (.bin .eql (.len (.v 4)) (.c (.i .i64 0))) (.ite (.v 14)
  (.chk (.room (.len (.app 1 (.v 4) (.one [(.v 10)]))) 9) (.lt (.bin .add (.v 2) (.c (.i .i64 1))) (.cont 0 [(.v 15), (.app 1 (.v 3) (.one [(.v 7)])), (.app 1 (.v 4) (.one [(.v 10)]))])))
  (.lt (.bin .sub (.len (.v 4)) (.c (.i .i64 1))) (.chk (.inb (.v 4) (.v 15) 1) (.chk (.inb (.v 4) (.v 15) 1) (.lt (.bin .neq (.idx (.v 4) (.v 15) 0) (.v 10)) (.ite (.v 16)
  (.chk (.room (.len (.app 1 (.v 4) (.one [(.v 10)]))) 9) (.lt (.bin .add (.v 2) (.c (.i .i64 1))) (.cont 0 [(.v 17), (.app 1 (.v 3) (.one [(.v 7)])), (.app 1 (.v 4) (.one [(.v 10)]))])))
  (.lt (.bin .add (.v 2) (.c (.i .i64 1))) (.cont 0 [(.v 17), (.app 1 (.v 3) (.one [(.v 7)])), (.v 4)])))))))))
  (.lt (.bin .add (.v 2) (.c (.i .i64 1))) (.cont 0 [(.v 14), (.app 1 (.v 3) (.one [(.v 7)])), (.v 4)]))))))
  (.lt (.bin .sub (.len (.v 3)) (.c (.i .i64 1))) (.chk (.inb (.v 3) (.v 13) 1) (.chk (.inb (.v 3) (.v 13) 1) (.lt (.bin .neq (.idx (.v 3) (.v 13) 0) (.v 7)) (.ite (.v 14)
  (.chk (.room (.len (.app 1 (.v 3) (.one [(.v 7)]))) 9) (.chk (.inb (.v 0) (.v 2) 8) (.lt (.bin .eql (.idx (.v 0) (.v 2) 2) (.c (.i .i64 0))) (.ite (.v 15)
  (.lt (.bin .eql (.len (.v 4)) (.c (.i .i64 0))) (.ite (.v 16)
  (.chk (.room (.len (.app 1 (.v 4) (.one [(.v 10)]))) 9) (.lt (.bin .add (.v 2) (.c (.i .i64 1))) (.cont 0 [(.v 17), (.app 1 (.v 3) (.one [(.v 7)])), (.app 1 (.v 4) (.one [(.v 10)]))])))
  (.lt (.bin .sub (.len (.v 4)) (.c (.i .i64 1))) (.chk (.inb (.v 4) (.v 17) 1) (.chk (.inb (.v 4) (.v 17) 1) (.lt (.bin .neq (.idx (.v 4) (.v 17) 0) (.v 10)) (.ite (.v 18)
  (.chk (.room (.len (.app 1 (.v 4) (.one [(.v 10)]))) 9) (.lt (.bin .add (.v 2) (.c (.i .i64 1))) (.cont 0 [(.v 19), (.app 1 (.v 3) (.one [(.v 7)])), (.app 1 (.v 4) (.one [(.v 10)]))])))
  (.lt (.bin .add (.v 2) (.c (.i .i64 1))) (.cont 0 [(.v 19), (.app 1 (.v 3) (.one [(.v 7)])), (.v 4)])))))))))
  (.lt (.bin .add (.v 2) (.c (.i .i64 1))) (.cont 0 [(.v 16), (.app 1 (.v 3) (.one [(.v 7)])), (.v 4)]))))))
  (.chk (.inb (.v 0) (.v 2) 8) (.lt (.bin .eql (.idx (.v 0) (.v 2) 2) (.c (.i .i64 0))) (.ite (.v 15)
  (.lt (.bin .eql (.len (.v 4)) (.c (.i .i64 0))) (.ite (.v 16)
  (.chk (.room (.len (.app 1 (.v 4) (.one [(.v 10)]))) 9) (.lt (.bin .add (.v 2) (.c (.i .i64 1))) (.cont 0 [(.v 17), (.v 3), (.app 1 (.v 4) (.one [(.v 10)]))])))
  (.lt (.bin .sub (.len (.v 4)) (.c (.i .i64 1))) (.chk (.inb (.v 4) (.v 17) 1) (.chk (.inb (.v 4) (.v 17) 1) (.lt (.bin .neq (.idx (.v 4) (.v 17) 0) (.v 10)) (.ite (.v 18)
  (.chk (.room (.len (.app 1 (.v 4) (.one [(.v 10)]))) 9) (.lt (.bin .add (.v 2) (.c (.i .i64 1))) (.cont 0 [(.v 19), (.v 3), (.app 1 (.v 4) (.one [(.v 10)]))])))
  (.lt (.bin .add (.v 2) (.c (.i .i64 1))) (.cont 0 [(.v 19), (.v 3), (.v 4)])))))))))
  (.lt (.bin .add (.v 2) (.c (.i .i64 1))) (.cont 0 [(.v 16), (.v 3), (.v 4)]))))))))))))
  (.chk (.inb (.v 0) (.v 2) 8) (.lt (.bin .eql (.idx (.v 0) (.v 2) 2) (.c (.i .i64 0))) (.ite (.v 12)
  (.lt (.bin .eql (.len (.v 4)) (.c (.i .i64 0))) (.ite (.v 13)
  (.chk (.room (.len (.app 1 (.v 4) (.one [(.v 10)]))) 9) (.lt (.bin .add (.v 2) (.c (.i .i64 1))) (.cont 0 [(.v 14), (.v 3), (.app 1 (.v 4) (.one [(.v 10)]))])))
  (.lt (.bin .sub (.len (.v 4)) (.c (.i .i64 1))) (.chk (.inb (.v 4) (.v 14) 1) (.chk (.inb (.v 4) (.v 14) 1) (.lt (.bin .neq (.idx (.v 4) (.v 14) 0) (.v 10)) (.ite (.v 15)
  (.chk (.room (.len (.app 1 (.v 4) (.one [(.v 10)]))) 9) (.lt (.bin .add (.v 2) (.c (.i .i64 1))) (.cont 0 [(.v 16), (.v 3), (.app 1 (.v 4) (.one [(.v 10)]))])))
  (.lt (.bin .add (.v 2) (.c (.i .i64 1))) (.cont 0 [(.v 16), (.v 3), (.v 4)])))))))))
  (.lt (.bin .add (.v 2) (.c (.i .i64 1))) (.cont 0 [(.v 13), (.v 3), (.v 4)]))))))))))))))
  (.ite (.v 1)
  (.call 86 [(false, [(.v 4)])] [(false, 1)]
  (.chk (.eqt false (.v 7) (.v 7)) (.lt (.bin .add (.c (.i .i64 1)) (.v 7)) (.ret [(false, [(.v 8)])]))))
  (.call 86 [(false, [(.v 3)])] [(false, 1)]
  (.chk (.eqt false (.v 7) (.v 7)) (.lt (.bin .add (.c (.i .i64 1)) (.v 7)) (.call 86 [(false, [(.v 4)])] [(false, 1)]
  (.chk (.eqt false (.v 9) (.v 9)) (.lt (.bin .add (.v 8) (.v 9)) (.ret [(false, [(.v 10)])]))))))))))))
theorem atlasref25_need_c : compile envIrFr 3000 44 = .ok atlasref25_need_ir := by kernel_rfl
theorem atlasref25_need_p : paramShape Tryz.prog 44 = some [(false, 1), (false, 1)] := by kernel_rfl
theorem atlasref25_need_k : Known gAll 44 (.ir [(false, 1), (false, 1)] atlasref25_need_ir) := known_ir (E := envIrFr) (n := 3000) rfl rfl atlasref25_need_c atlasref25_need_p
/-- atlas/atlasref25.Where -/
def atlasref25_Where_ir : IR :=
  (.lt (.bin .lss (.v 15) (.c (.i .i64 0))) (.ite (.v 16)
  (.ret [(false, [(.c (.i .i64 1))])])
  (.lt (.bin .gtr (.v 15) (.c (.i .i64 2))) (.ite (.v 17)
  (.ret [(false, [(.c (.i .i64 1))])])
  (.lt (.bin .neq (.v 13) (.c (.i .i64 (-1)))) (.ite (.v 18)
  (.call 27 [(true, (vr 0 13)), (false, [(.v 13)])] [(false, 1)]
  (.lt (.un .not (.v 19)) (.ite (.v 20)
  (.ret [(false, [(.c (.i .i64 4))])])
  (.call 87 [(false, [(.v 14)]), (false, [(.v 15)])] [(false, 1)]
  (.lt (.un .not (.v 21)) (.ite (.v 22)
  (.ret [(false, [(.c (.i .i64 2))])])
  (.call 54 [(false, [(.v 14)]), (false, [(.c (.i .i64 2))])] [(false, 1)]
  (.lt (.bin .eql (.v 23) (.c (.i .i64 511))) (.lt (.bin .eql (.v 13) (.c (.i .i64 (-1)))) (.ite (.v 25)
  (.lt (.un .not (.v 24)) (.ite (.v 26)
  (.ret [(false, [(.c (.i .i64 3))])])
  (.lt (.bin .eql (.v 15) (.c (.i .i64 2))) (.ite (.v 27)
  (.ret [(false, [(.c (.i .i64 3))])])
  (.lt (.bin .neq (.v 13) (.c (.i .i64 (-1)))) (.ite (.v 28)
  (.ite (.v 24)
  (.ret [(false, [(.c (.i .i64 3))])])
  (.ret [(false, [(.c (.i .i64 0))])]))
  (.ret [(false, [(.c (.i .i64 0))])])))))))
  (.lt (.bin .neq (.v 13) (.c (.i .i64 (-1)))) (.ite (.v 26)
  (.ite (.v 24)
  (.ret [(false, [(.c (.i .i64 3))])])
  (.ret [(false, [(.c (.i .i64 0))])]))
  (.ret [(false, [(.c (.i .i64 0))])])))))))))))))
  (.call 87 [(false, [(.v 14)]), (false, [(.v 15)])] [(false, 1)]
  (.lt (.un .not (.v 19)) (.ite (.v 20)
  (.ret [(false, [(.c (.i .i64 2))])])
  (.call 54 [(false, [(.v 14)]), (false, [(.c (.i .i64 2))])] [(false, 1)]
  (.lt (.bin .eql (.v 21) (.c (.i .i64 511))) (.lt (.bin .eql (.v 13) (.c (.i .i64 (-1)))) (.ite (.v 23)
  (.lt (.un .not (.v 22)) (.ite (.v 24)
  (.ret [(false, [(.c (.i .i64 3))])])
  (.lt (.bin .eql (.v 15) (.c (.i .i64 2))) (.ite (.v 25)
  (.ret [(false, [(.c (.i .i64 3))])])
  (.lt (.bin .neq (.v 13) (.c (.i .i64 (-1)))) (.ite (.v 26)
  (.ite (.v 22)
  (.ret [(false, [(.c (.i .i64 3))])])
  (.ret [(false, [(.c (.i .i64 0))])]))
  (.ret [(false, [(.c (.i .i64 0))])])))))))
  (.lt (.bin .neq (.v 13) (.c (.i .i64 (-1)))) (.ite (.v 24)
  (.ite (.v 22)
  (.ret [(false, [(.c (.i .i64 3))])])
  (.ret [(false, [(.c (.i .i64 0))])]))
  (.ret [(false, [(.c (.i .i64 0))])]))))))))))))))))
theorem atlasref25_Where_c : compile envIrFr 3000 45 = .ok atlasref25_Where_ir := by kernel_rfl
theorem atlasref25_Where_p : paramShape Tryz.prog 45 = some [(true, 13), (false, 1), (false, 1), (false, 1)] := by kernel_rfl
theorem atlasref25_Where_k : Known gAll 45 (.ir [(true, 13), (false, 1), (false, 1), (false, 1)] atlasref25_Where_ir) := known_ir (E := envIrFr) (n := 3000) rfl rfl atlasref25_Where_c atlasref25_Where_p
/-- atlas/atlasref25.Region -/
def atlasref25_Region_ir : IR :=
  (.loop [(.c (.i .i64 0)), (.c (.sl 0 []))]
  (.lt (.len (.v 0)) (.lt (.bin .lss (.v 3) (.v 5)) (.ite (.v 6)
  (.chk (.inb (.v 0) (.v 3) 8) (.call 41 [(true, (idr (.v 0) (.v 3) 0 8)), (true, [(.v 1), (.c (.i .u64 0)), (.v 2), (.c (.b false)), (.c (.b false)), (.c (.b false)), (.c (.b false)), (.c (.b false))])] [(false, 1)]
  (.ite (.v 7)
  (.chk (.inb (.v 0) (.v 3) 8) (.chk (.room (.len (.app 8 (.v 4) (.one (idr (.v 0) (.v 3) 0 8)))) 33) (.lt (.bin .add (.v 3) (.c (.i .i64 1))) (.cont 0 [(.v 8), (.app 8 (.v 4) (.one (idr (.v 0) (.v 3) 0 8)))]))))
  (.lt (.bin .add (.v 3) (.c (.i .i64 1))) (.cont 0 [(.v 8), (.v 4)])))))
  (.ret [(false, [(.v 4)])])))))
theorem atlasref25_Region_c : compile envIrFr 3000 21 = .ok atlasref25_Region_ir := by kernel_rfl
theorem atlasref25_Region_p : paramShape Tryz.prog 21 = some [(false, 1), (false, 1), (false, 1)] := by kernel_rfl
theorem atlasref25_Region_k : Known gAll 21 (.ir [(false, 1), (false, 1), (false, 1)] atlasref25_Region_ir) := known_ir (E := envIrFr) (n := 3000) rfl rfl atlasref25_Region_c atlasref25_Region_p
/-- atlas/atlasref25.put -/
def atlasref25_put_ir : IR :=
  (.loop [(.c (.b false)), (.c (.i .i64 0)), (.c (.sl 0 []))]
  (.lt (.len (.v 0)) (.lt (.bin .lss (.v 10) (.v 12)) (.ite (.v 13)
  (.lt (.un .not (.v 9)) (.ite (.v 14)
  (.chk (.inb (.v 0) (.v 10) 8) (.lt (.bin .gtr (.idx (.v 0) (.v 10) 0) (.v 1)) (.ite (.v 15)
  (.chk (.room (.len (.app 8 (.v 11) (.one (vr 1 8)))) 33) (.chk (.inb (.v 0) (.v 10) 8) (.chk (.room (.len (.app 8 (.app 8 (.v 11) (.one (vr 1 8))) (.one (idr (.v 0) (.v 10) 0 8)))) 33) (.lt (.bin .add (.v 10) (.c (.i .i64 1))) (.cont 0 [(.c (.b true)), (.v 16), (.app 8 (.app 8 (.v 11) (.one (vr 1 8))) (.one (idr (.v 0) (.v 10) 0 8)))])))))
  (.chk (.inb (.v 0) (.v 10) 8) (.chk (.room (.len (.app 8 (.v 11) (.one (idr (.v 0) (.v 10) 0 8)))) 33) (.lt (.bin .add (.v 10) (.c (.i .i64 1))) (.cont 0 [(.v 9), (.v 16), (.app 8 (.v 11) (.one (idr (.v 0) (.v 10) 0 8)))])))))))
  (.chk (.inb (.v 0) (.v 10) 8) (.chk (.room (.len (.app 8 (.v 11) (.one (idr (.v 0) (.v 10) 0 8)))) 33) (.lt (.bin .add (.v 10) (.c (.i .i64 1))) (.cont 0 [(.v 9), (.v 15), (.app 8 (.v 11) (.one (idr (.v 0) (.v 10) 0 8)))]))))))
  (.lt (.un .not (.v 9)) (.ite (.v 14)
  (.chk (.room (.len (.app 8 (.v 11) (.one (vr 1 8)))) 33) (.ret [(false, [(.app 8 (.v 11) (.one (vr 1 8)))])]))
  (.ret [(false, [(.v 11)])])))))))
theorem atlasref25_put_c : compile envIrFr 3000 47 = .ok atlasref25_put_ir := by kernel_rfl
theorem atlasref25_put_p : paramShape Tryz.prog 47 = some [(false, 1), (true, 8)] := by kernel_rfl
theorem atlasref25_put_k : Known gAll 47 (.ir [(false, 1), (true, 8)] atlasref25_put_ir) := known_ir (E := envIrFr) (n := 3000) rfl rfl atlasref25_put_c atlasref25_put_p
/-- atlas/atlasref25.Cut -/
def atlasref25_Cut_ir : IR :=
  (.loop [(.c (.i .i64 0))]
  (.lt (.len (.v 0)) (.lt (.bin .lss (.v 3) (.v 4)) (.ite (.v 5)
  (.chk (.inb (.v 0) (.v 3) 8) (.lt (.bin .leq (.idx (.v 0) (.v 3) 2) (.v 2)) (.ite (.v 6)
  (.lt (.bin .add (.v 3) (.c (.i .i64 1))) (.cont 0 [(.v 7)]))
  (.call 42 [(true, (idr (.v 0) (.v 3) 0 8)), (false, [(.v 1)])] [(false, 1)]
  (.lt (.un .not (.v 7)) (.ite (.v 8)
  (.lt (.bin .add (.v 3) (.c (.i .i64 1))) (.cont 0 [(.v 9)]))
  (.chk (.bnd (.c (.i .i64 0)) (.v 3) (.len (.v 0))) (.chk (.room (.len (.app 8 (.c (.sl 0 [])) (.v 0))) 0) (.chk (.room (.len (.app 8 (.c (.sl 8 [])) (.sub (.v 0) (.c (.i .i64 0)) (.v 3)))) 33) (.lt (.bin .sub (.idx (.v 0) (.v 3) 2) (.c (.i .i64 1))) (.call 43 [(false, [(.v 9)])] [(false, 1)]
  (.loop [(.c (.i .u64 0)), (.app 8 (.c (.sl 8 [])) (.sub (.v 0) (.c (.i .i64 0)) (.v 3)))]
  (.lt (.bin .lss (.v 11) (.c (.i .u64 512))) (.ite (.v 13)
  (.lt (.bin .mul (.v 11) (.v 10)) (.lt (.bin .add (.idx (.v 0) (.v 3) 0) (.v 14)) (.lt (.bin .mul (.v 11) (.v 10)) (.lt (.bin .add (.idx (.v 0) (.v 3) 1) (.v 16)) (.lt (.bin .sub (.idx (.v 0) (.v 3) 2) (.c (.i .i64 1))) (.chk (.room (.len (.app 8 (.v 12) (.one ([(.v 15), (.v 17), (.v 18)] ++ idr (.v 0) (.v 3) 3 5)))) 33) (.lt (.bin .add (.v 11) (.c (.i .u64 1))) (.cont 1 [(.v 19), (.app 8 (.v 12) (.one ([(.v 15), (.v 17), (.v 18)] ++ idr (.v 0) (.v 3) 3 5)))]))))))))
  (.lt (.bin .add (.v 3) (.c (.i .i64 1))) (.chk (.bnd (.v 14) (.len (.v 0)) (.len (.v 0))) (.chk (.room (.len (.app 8 (.c (.sl 0 [])) (.v 0))) 0) (.chk (.room (.len (.app 8 (.v 12) (.sub (.v 0) (.v 14) (.len (.v 0))))) 33) (.call 22 [(false, [(.app 8 (.v 12) (.sub (.v 0) (.v 14) (.len (.v 0))))]), (false, [(.v 1)]), (false, [(.v 2)])] [(false, 1)]
  (.ret [(false, [(.v 15)])]))))))))))))))))))))
  (.chk (.room (.len (.app 8 (.c (.sl 8 [])) (.v 0))) 33) (.ret [(false, [(.app 8 (.c (.sl 8 [])) (.v 0))])]))))))
theorem atlasref25_Cut_c : compile envIrFr 3000 22 = .ok atlasref25_Cut_ir := by kernel_rfl
theorem atlasref25_Cut_p : paramShape Tryz.prog 22 = some [(false, 1), (false, 1), (false, 1)] := by kernel_rfl
theorem atlasref25_Cut_k : Known gAll 22 (.ir [(false, 1), (false, 1), (false, 1)] atlasref25_Cut_ir) := known_ir (E := envIrFr) (n := 3000) rfl rfl atlasref25_Cut_c atlasref25_Cut_p
/-- atlas/atlasref25.meet -/
def atlasref25_meet_ir : IR :=
  (.call 42 [(true, (vr 0 8)), (false, [(.v 8)])] [(false, 1)]
  (.ite (.v 16)
  (.ret [(false, [(.c (.b true))])])
  (.call 42 [(true, (vr 8 8)), (false, [(.v 0)])] [(false, 1)]
  (.ret [(false, [(.v 17)])]))))
theorem atlasref25_meet_c : compile envIrFr 3000 41 = .ok atlasref25_meet_ir := by kernel_rfl
theorem atlasref25_meet_p : paramShape Tryz.prog 41 = some [(true, 8), (true, 8)] := by kernel_rfl
theorem atlasref25_meet_k : Known gAll 41 (.ir [(true, 8), (true, 8)] atlasref25_meet_ir) := known_ir (E := envIrFr) (n := 3000) rfl rfl atlasref25_meet_c atlasref25_meet_p
/-- atlas/atlasref25.store -/
def atlasref25_store_ir : IR :=
  (.loop [(.c (.i .i64 0)), (.c (.sl 0 []))]
  (.lt (.len (.v 0)) (.lt (.bin .lss (.v 2) (.v 4)) (.ite (.v 5)
  (.chk (.inb (.v 0) (.v 2) 8) (.ite (.idx (.v 0) (.v 2) 7)
  (.chk (.room (.len (.app 8 (.v 3) (.one (idr (.v 0) (.v 2) 0 7 ++ [(.c (.b true))])))) 33) (.lt (.bin .add (.v 2) (.c (.i .i64 1))) (.cont 0 [(.v 6), (.app 8 (.v 3) (.one (idr (.v 0) (.v 2) 0 7 ++ [(.c (.b true))])))])))
  (.call 42 [(true, (idr (.v 0) (.v 2) 0 8)), (false, [(.v 1)])] [(false, 1)]
  (.chk (.room (.len (.app 8 (.v 3) (.one (idr (.v 0) (.v 2) 0 7 ++ [(.v 6)])))) 33) (.lt (.bin .add (.v 2) (.c (.i .i64 1))) (.cont 0 [(.v 7), (.app 8 (.v 3) (.one (idr (.v 0) (.v 2) 0 7 ++ [(.v 6)])))]))))))
  (.ret [(false, [(.v 3)])])))))
theorem atlasref25_store_c : compile envIrFr 3000 55 = .ok atlasref25_store_ir := by kernel_rfl
theorem atlasref25_store_p : paramShape Tryz.prog 55 = some [(false, 1), (false, 1)] := by kernel_rfl
theorem atlasref25_store_k : Known gAll 55 (.ir [(false, 1), (false, 1)] atlasref25_store_ir) := known_ir (E := envIrFr) (n := 3000) rfl rfl atlasref25_store_c atlasref25_store_p
/-- atlas/atlasref25.unlike -/
def atlasref25_unlike_ir : IR :=
  (.loop [(.c (.i .i64 0)), (.c (.i .i64 0))]
  (.lt (.len (.v 0)) (.lt (.bin .lss (.v 2) (.v 3)) (.ite (.v 4)
  (.loop [(.c (.b true)), (.c (.i .i64 0))]
  (.lt (.bin .lss (.v 6) (.v 2)) (.ite (.v 7)
  (.ite (.v 5)
  (.chk (.inb (.v 0) (.v 6) 1) (.chk (.inb (.v 0) (.v 2) 1) (.lt (.bin .neq (.idx (.v 0) (.v 6) 0) (.idx (.v 0) (.v 2) 0)) (.lt (.bin .add (.v 6) (.c (.i .i64 1))) (.cont 1 [(.v 8), (.v 9)])))))
  (.ite (.v 5)
  (.lt (.bin .add (.v 1) (.c (.i .i64 1))) (.lt (.bin .add (.v 2) (.c (.i .i64 1))) (.cont 0 [(.v 8), (.v 9)])))
  (.lt (.bin .add (.v 2) (.c (.i .i64 1))) (.cont 0 [(.v 1), (.v 8)]))))
  (.ite (.v 5)
  (.lt (.bin .add (.v 1) (.c (.i .i64 1))) (.lt (.bin .add (.v 2) (.c (.i .i64 1))) (.cont 0 [(.v 8), (.v 9)])))
  (.lt (.bin .add (.v 2) (.c (.i .i64 1))) (.cont 0 [(.v 1), (.v 8)]))))))
  (.ret [(false, [(.v 1)])])))))
theorem atlasref25_unlike_c : compile envIrFr 3000 86 = .ok atlasref25_unlike_ir := by kernel_rfl
theorem atlasref25_unlike_p : paramShape Tryz.prog 86 = some [(false, 1)] := by kernel_rfl
theorem atlasref25_unlike_k : Known gAll 86 (.ir [(false, 1)] atlasref25_unlike_ir) := known_ir (E := envIrFr) (n := 3000) rfl rfl atlasref25_unlike_c atlasref25_unlike_p
noncomputable def envIrFrj : Env := { P := Tryz.prog, G := gAll, inl := [], unr := [], jn := List.range 400, ded := true }
def TIrFr : Tbl :=
  (8, .ir [(true, 4)] atlasref21_May_ir) ::
  (9, .ir [(false, 1)] atlasref25_Calm_ir) ::
  (16, .ir [(true, 4)] atlasref25_New_ir) ::
  (15, .ir [(true, 13), (true, 12)] atlasref25_Step_ir) ::
  (50, .ir [(true, 13), (false, 1)] atlasref25_Find_ir) ::
  (26, .ir [(true, 13)] atlasref25_Tables_ir) ::
  (23, .ir [(true, 13), (false, 1)] atlasref25_List_ir) ::
  (27, .ir [(true, 13), (false, 1)] atlasref25_Lives_ir) ::
  (28, .ir [(true, 13), (false, 1), (false, 1)] atlasref25_With_ir) ::
  (29, .ir [(true, 13), (true, 12)] atlasref25_pages_ir) ::
  (30, .ir [(true, 13), (true, 12)] atlasref25_access_ir) ::
  (42, .ir [(true, 8), (false, 1)] atlasref25_in_ir) ::
  (44, .ir [(false, 1), (false, 1)] atlasref25_need_ir) ::
  (45, .ir [(true, 13), (false, 1), (false, 1), (false, 1)] atlasref25_Where_ir) ::
  (21, .ir [(false, 1), (false, 1), (false, 1)] atlasref25_Region_ir) ::
  (47, .ir [(false, 1), (true, 8)] atlasref25_put_ir) ::
  (22, .ir [(false, 1), (false, 1), (false, 1)] atlasref25_Cut_ir) ::
  (41, .ir [(true, 8), (true, 8)] atlasref25_meet_ir) ::
  (55, .ir [(false, 1), (false, 1)] atlasref25_store_ir) ::
  (86, .ir [(false, 1)] atlasref25_unlike_ir) ::
  []
theorem TIrFr_ok : ∀ x ∈ TIrFr, Known gAll x.1 x.2 :=
  kcons atlasref21_May_k <|
  kcons atlasref25_Calm_k <|
  kcons atlasref25_New_k <|
  kcons atlasref25_Step_k <|
  kcons atlasref25_Find_k <|
  kcons atlasref25_Tables_k <|
  kcons atlasref25_List_k <|
  kcons atlasref25_Lives_k <|
  kcons atlasref25_With_k <|
  kcons atlasref25_pages_k <|
  kcons atlasref25_access_k <|
  kcons atlasref25_in_k <|
  kcons atlasref25_need_k <|
  kcons atlasref25_Where_k <|
  kcons atlasref25_Region_k <|
  kcons atlasref25_put_k <|
  kcons atlasref25_Cut_k <|
  kcons atlasref25_meet_k <|
  kcons atlasref25_store_k <|
  kcons atlasref25_unlike_k <|
  fun _ h => nomatch h
end Go.Proofs.YtlihbielphcgbaaGreatDoor.Sx
