/-
  IRs of functions, printed by a program of mine (wip/tools/mkir.py, ev.run.lean); each is checked by the kernel against the executor.
-/
import Derived.Test.YtnlilhpkjlodjaaDoorZBf
import Derived.Test.YtnlilhpkjlodjaaDoorProg
namespace Go.Proofs.YtnlilhpkjlodjaaDoor.Sx
open Go
set_option maxRecDepth 100000
def inlenvIrW : List FuncId :=
  94 ::
  []
noncomputable def envIrW : Env := { P := Tryd.prog, G := gAll, inl := inlenvIrW, unr := [], ded := true }
def atlasref10_Look_ir : IR :=
  (.call 20 [(false, [(.v 3)])] [(false, 1)]
  (.lt (.un .not (.v 5)) (.ite (.v 6)
  (.call 55 [(false, [(.c (.i .i64 3))]), (false, [(.v 4)]), (false, [(.v 3)])] [(true, 3)]
  (.ret [(true, [(.c (.i .i64 0)), (.c (.i .u64 0)), (.c (.b false)), (.c (.b false)), (.c (.b false)), (.c (.b false)), (.c (.b false)), (.c (.b false)), (.c (.b false)), (.c (.b false)), (.c (.i .u64 0)), (.c (.i .u64 0)), (.c (.i .u64 0))]), (true, [(.v 7), (.v 8), (.v 9)])]))
  (.call 56 [(true, [(.v 0), (.v 1)]), (false, [(.v 2)]), (false, [(.v 3)]), (false, [(.v 4)]), (false, [(.c (.i .i64 2))]), (false, [(.c (.b false))])] [(true, 13), (true, 3)]
  (.ret [(true, (vr 7 13)), (true, [(.v 20), (.v 21), (.v 22)])])))))
theorem atlasref10_Look_c : compile envIrW 3000 24 = .ok atlasref10_Look_ir := by kernel_rfl
theorem atlasref10_Look_p : paramShape Tryd.prog 24 = some [(true, 2), (false, 1), (false, 1), (false, 1)] := by kernel_rfl
theorem atlasref10_Look_k : Known gAll 24 (.ir [(true, 2), (false, 1), (false, 1), (false, 1)] atlasref10_Look_ir) := known_ir (E := envIrW) (n := 3000) rfl rfl atlasref10_Look_c atlasref10_Look_p
def atlasref10_Physical_ir : IR :=
  (.lt (.bin .mul (.c (.i .u64 4096)) (.v 11)) (.call 54 [(false, [(.v 13)]), (false, [(.v 0)])] [(false, 1)]
  (.lt (.bin .add (.v 14) (.v 15)) (.ret [(false, [(.v 16)])]))))
theorem atlasref10_Physical_c : compile envIrW 3000 25 = .ok atlasref10_Physical_ir := by kernel_rfl
theorem atlasref10_Physical_p : paramShape Tryd.prog 25 = some [(true, 13), (false, 1)] := by kernel_rfl
theorem atlasref10_Physical_k : Known gAll 25 (.ir [(true, 13), (false, 1)] atlasref10_Physical_ir) := known_ir (E := envIrW) (n := 3000) rfl rfl atlasref10_Physical_c atlasref10_Physical_p
def atlasref06_Perm_ir : IR :=
  (.ret [(true, (vr 1 4))])
theorem atlasref06_Perm_c : compile envIrW 3000 26 = .ok atlasref06_Perm_ir := by kernel_rfl
theorem atlasref06_Perm_p : paramShape Tryd.prog 26 = some [(true, 11)] := by kernel_rfl
theorem atlasref06_Perm_k : Known gAll 26 (.ir [(true, 11)] atlasref06_Perm_ir) := known_ir (E := envIrW) (n := 3000) rfl rfl atlasref06_Perm_c atlasref06_Perm_p
def pte_Get_ir : IR :=
  (.call (capOff + 93) [(false, [(.c (.i .i64 1))]), (false, [(.c (.i .i64 0))]), (true, [(.v 0)])] [(false, 1)]
  (.call (capOff + 93) [(false, [(.c (.i .i64 1))]), (false, [(.c (.i .i64 1))]), (true, [(.v 0)])] [(false, 1)]
  (.call (capOff + 93) [(false, [(.c (.i .i64 1))]), (false, [(.c (.i .i64 2))]), (true, [(.v 0)])] [(false, 1)]
  (.call (capOff + 93) [(false, [(.c (.i .i64 1))]), (false, [(.c (.i .i64 3))]), (true, [(.v 0)])] [(false, 1)]
  (.call (capOff + 93) [(false, [(.c (.i .i64 1))]), (false, [(.c (.i .i64 4))]), (true, [(.v 0)])] [(false, 1)]
  (.call (capOff + 93) [(false, [(.c (.i .i64 1))]), (false, [(.c (.i .i64 5))]), (true, [(.v 0)])] [(false, 1)]
  (.call (capOff + 93) [(false, [(.c (.i .i64 1))]), (false, [(.c (.i .i64 6))]), (true, [(.v 0)])] [(false, 1)]
  (.call (capOff + 93) [(false, [(.c (.i .i64 1))]), (false, [(.c (.i .i64 7))]), (true, [(.v 0)])] [(false, 1)]
  (.call 79 [(false, [(.v 0)]), (false, [(.c (.i .i64 8))]), (false, [(.c (.i .i64 2))])] [(false, 1)]
  (.call 79 [(false, [(.v 0)]), (false, [(.c (.i .i64 10))]), (false, [(.c (.i .i64 44))])] [(false, 1)]
  (.call 79 [(false, [(.v 0)]), (false, [(.c (.i .i64 54))]), (false, [(.c (.i .i64 10))])] [(false, 1)]
  (.ret [(true, (vr 1 11))]))))))))))))
theorem pte_Get_c : compile envIrW 3000 75 = .ok pte_Get_ir := by kernel_rfl
theorem pte_Get_p : paramShape Tryd.prog 75 = some [(false, 1)] := by kernel_rfl
theorem pte_Get_k : Known gAll 75 (.ir [(false, 1)] pte_Get_ir) := known_ir (E := envIrW) (n := 3000) rfl rfl pte_Get_c pte_Get_p
def pte_Bad_ir : IR :=
  (.lt (.un .not (.v 0)) (.ite (.v 12)
  (.ret [(false, [(.c (.b true))])])
  (.ite (.v 2)
  (.lt (.un .not (.v 1)) (.ite (.v 13)
  (.ret [(false, [(.c (.b true))])])
  (.lt (.bin .neq (.v 10) (.c (.i .u64 0))) (.ite (.v 14)
  (.ret [(false, [(.c (.b true))])])
  (.call 76 [(true, (vr 0 11))] [(false, 1)]
  (.ite (.v 15)
  (.lt (.bin .eql (.v 11) (.c (.i .i64 0))) (.ite (.v 16)
  (.ret [(false, [(.c (.b true))])])
  (.ite (.v 6)
  (.ret [(false, [(.c (.b true))])])
  (.ite (.v 7)
  (.ret [(false, [(.c (.b true))])])
  (.ret [(false, [(.v 4)])])))))
  (.call 48 [(false, [(.v 11)])] [(false, 1)]
  (.lt (.bin .quo (.v 16) (.c (.i .u64 4096))) (.call 77 [(false, [(.v 9)]), (false, [(.v 17)])] [(false, 1)]
  (.lt (.un .not (.v 18)) (.ret [(false, [(.v 19)])])))))))))))
  (.lt (.bin .neq (.v 10) (.c (.i .u64 0))) (.ite (.v 13)
  (.ret [(false, [(.c (.b true))])])
  (.call 76 [(true, (vr 0 11))] [(false, 1)]
  (.ite (.v 14)
  (.lt (.bin .eql (.v 11) (.c (.i .i64 0))) (.ite (.v 15)
  (.ret [(false, [(.c (.b true))])])
  (.ite (.v 6)
  (.ret [(false, [(.c (.b true))])])
  (.ite (.v 7)
  (.ret [(false, [(.c (.b true))])])
  (.ret [(false, [(.v 4)])])))))
  (.call 48 [(false, [(.v 11)])] [(false, 1)]
  (.lt (.bin .quo (.v 15) (.c (.i .u64 4096))) (.call 77 [(false, [(.v 9)]), (false, [(.v 16)])] [(false, 1)]
  (.lt (.un .not (.v 17)) (.ret [(false, [(.v 18)])]))))))))))))
theorem pte_Bad_c : compile envIrW 3000 49 = .ok pte_Bad_ir := by kernel_rfl
theorem pte_Bad_p : paramShape Tryd.prog 49 = some [(true, 11), (false, 1)] := by kernel_rfl
theorem pte_Bad_k : Known gAll 49 (.ir [(true, 11), (false, 1)] pte_Bad_ir) := known_ir (E := envIrW) (n := 3000) rfl rfl pte_Bad_c pte_Bad_p
def pte_Leaf_ir : IR :=
  (.ite (.v 0)
  (.ite (.v 1)
  (.ret [(false, [(.c (.b true))])])
  (.ret [(false, [(.v 3)])]))
  (.ret [(false, [(.c (.b false))])]))
theorem pte_Leaf_c : compile envIrW 3000 50 = .ok pte_Leaf_ir := by kernel_rfl
theorem pte_Leaf_p : paramShape Tryd.prog 50 = some [(true, 11)] := by kernel_rfl
theorem pte_Leaf_k : Known gAll 50 (.ir [(true, 11)] pte_Leaf_ir) := known_ir (E := envIrW) (n := 3000) rfl rfl pte_Leaf_c pte_Leaf_p
def atlasref09_Fault_ir : IR :=
  (.call 80 [(false, [(.v 0)]), (false, [(.v 1)])] [(false, 1)]
  (.ret [(true, [(.c (.b true)), (.v 3), (.v 2)])]))
theorem atlasref09_Fault_c : compile envIrW 3000 55 = .ok atlasref09_Fault_ir := by kernel_rfl
theorem atlasref09_Fault_p : paramShape Tryd.prog 55 = some [(false, 1), (false, 1), (false, 1)] := by kernel_rfl
theorem atlasref09_Fault_k : Known gAll 55 (.ir [(false, 1), (false, 1), (false, 1)] atlasref09_Fault_ir) := known_ir (E := envIrW) (n := 3000) rfl rfl atlasref09_Fault_c atlasref09_Fault_p
def atlasref10_down_ir : IR :=
  (.lt (.bin .mul (.c (.i .u64 4096)) (.v 2)) (.call 31 [(false, [(.v 3)]), (false, [(.v 5)])] [(false, 1)]
  (.lt (.cv .u64 (.v 8)) (.lt (.bin .mul (.c (.i .u64 8)) (.v 9)) (.lt (.bin .add (.v 7) (.v 10)) (.lt (.bin .geq (.v 11) (.v 0)) (.ite (.v 12)
  (.call 55 [(false, [(.c (.i .i64 2))]), (false, [(.v 4)]), (false, [(.v 3)])] [(true, 3)]
  (.ret [(true, [(.c (.i .i64 0)), (.c (.i .u64 0)), (.c (.b false)), (.c (.b false)), (.c (.b false)), (.c (.b false)), (.c (.b false)), (.c (.b false)), (.c (.b false)), (.c (.b false)), (.c (.i .u64 0)), (.c (.i .u64 0)), (.c (.i .u64 0))]), (true, [(.v 13), (.v 14), (.v 15)])]))
  (.call 82 [(true, [(.v 0), (.v 1)]), (false, [(.v 11)])] [(false, 1)]
  (.call 81 [(false, [(.v 13)])] [(true, 11)]
  (.call 36 [(true, (vr 14 11)), (false, [(.v 5)])] [(false, 1)]
  (.ite (.v 25)
  (.call 55 [(false, [(.c (.i .i64 3))]), (false, [(.v 4)]), (false, [(.v 3)])] [(true, 3)]
  (.ret [(true, [(.c (.i .i64 0)), (.c (.i .u64 0)), (.c (.b false)), (.c (.b false)), (.c (.b false)), (.c (.b false)), (.c (.b false)), (.c (.b false)), (.c (.b false)), (.c (.b false)), (.c (.i .u64 0)), (.c (.i .u64 0)), (.c (.i .u64 0))]), (true, [(.v 26), (.v 27), (.v 28)])]))
  (.call 28 [(true, (vr 14 11))] [(false, 1)]
  (.ite (.v 26)
  (.lt (.bin .sub (.v 5) (.c (.i .i64 1))) (.ite (.v 6)
  (.call 56 [(true, [(.v 0), (.v 1)]), (false, [(.v 23)]), (false, [(.v 3)]), (false, [(.v 4)]), (false, [(.v 27)]), (false, [(.c (.b true))])] [(true, 13), (true, 3)]
  (.ret [(true, (vr 28 13)), (true, [(.v 41), (.v 42), (.v 43)])]))
  (.call 56 [(true, [(.v 0), (.v 1)]), (false, [(.v 23)]), (false, [(.v 3)]), (false, [(.v 4)]), (false, [(.v 27)]), (false, [(.v 19)])] [(true, 13), (true, 3)]
  (.ret [(true, (vr 28 13)), (true, [(.v 41), (.v 42), (.v 43)])]))))
  (.ite (.v 19)
  (.ret [(true, ([(.v 5), (.v 11)] ++ vr 14 5 ++ [(.c (.b true))] ++ vr 20 5)), (true, [(.c (.b false)), (.c (.i .i64 0)), (.c (.i .u64 0))])])
  (.ret [(true, ([(.v 5), (.v 11)] ++ vr 14 5 ++ [(.v 6)] ++ vr 20 5)), (true, [(.c (.b false)), (.c (.i .i64 0)), (.c (.i .u64 0))])])))))))))))))))
theorem atlasref10_down_c : compile envIrW 3000 56 = .ok atlasref10_down_ir := by kernel_rfl
theorem atlasref10_down_p : paramShape Tryd.prog 56 = some [(true, 2), (false, 1), (false, 1), (false, 1), (false, 1), (false, 1)] := by kernel_rfl
theorem atlasref10_down_k : Known gAll 56 (.ir [(true, 2), (false, 1), (false, 1), (false, 1), (false, 1), (false, 1)] atlasref10_down_ir) := known_ir (E := envIrW) (n := 3000) rfl rfl atlasref10_down_c atlasref10_down_p
def pte_Perm_ir : IR :=
  (.ret [(true, (vr 1 4))])
theorem pte_Perm_c : compile envIrW 3000 53 = .ok pte_Perm_ir := by kernel_rfl
theorem pte_Perm_p : paramShape Tryd.prog 53 = some [(true, 11)] := by kernel_rfl
theorem pte_Perm_k : Known gAll 53 (.ir [(true, 11)] pte_Perm_ir) := known_ir (E := envIrW) (n := 3000) rfl rfl pte_Perm_c pte_Perm_p
def pte_Put_ir : IR :=
  (.call 83 [(true, (vr 0 11))] [(false, 1)]
  (.lt (.un .not (.v 11)) (.ite (.v 12)
  (.ret [(false, [(.c (.i .u64 0))]), (false, [(.c (.i .i64 1))])])
  (.call 84 [(false, [(.cat (.one [(.v 0)]) (.cat (.one [(.v 1)]) (.cat (.one [(.v 2)]) (.cat (.one [(.v 3)]) (.cat (.one [(.v 4)]) (.cat (.one [(.v 5)]) (.cat (.one [(.v 6)]) (.one [(.v 7)]))))))))])] [(false, 1)]
  (.chk (.eqt false (.v 13) (.v 13)) (.call 69 [(false, [(.v 13)]), (false, [(.c (.i .i64 8))]), (false, [(.c (.i .i64 2))]), (false, [(.v 8)])] [(false, 1)]
  (.call 69 [(false, [(.v 14)]), (false, [(.c (.i .i64 10))]), (false, [(.c (.i .i64 44))]), (false, [(.v 9)])] [(false, 1)]
  (.call 69 [(false, [(.v 15)]), (false, [(.c (.i .i64 54))]), (false, [(.c (.i .i64 10))]), (false, [(.v 10)])] [(false, 1)]
  (.ret [(false, [(.v 16)]), (false, [(.c (.i .i64 0))])])))))))))
theorem pte_Put_c : compile envIrW 3000 61 = .ok pte_Put_ir := by kernel_rfl
theorem pte_Put_p : paramShape Tryd.prog 61 = some [(true, 11)] := by kernel_rfl
theorem pte_Put_k : Known gAll 61 (.ir [(true, 11)] pte_Put_ir) := known_ir (E := envIrW) (n := 3000) rfl rfl pte_Put_c pte_Put_p
def pte_Get_1_ir : IR :=
  (.call 79 [(false, [(.v 1)]), (false, [(.v 0)]), (false, [(.c (.i .i64 1))])] [(false, 1)]
  (.lt (.bin .eql (.v 2) (.c (.i .u64 1))) (.ret [(false, [(.v 3)])])))
theorem pte_Get_1_c : compileK envIrW 3000 93 [1] = .ok pte_Get_1_ir := by kernel_rfl
theorem pte_Get_1_p : paramShape Tryd.prog 93 = some [(false, 1)] := by kernel_rfl
theorem pte_Get_1_k : Known gAll (capOff + 93) (.irK [(false, 1)] [1] pte_Get_1_ir) := known_irK (E := envIrW) (n := 3000) rfl rfl pte_Get_1_c pte_Get_1_p
def pte_Link_ir : IR :=
  (.ite (.v 0)
  (.lt (.un .not (.v 1)) (.ite (.v 11)
  (.lt (.un .not (.v 3)) (.ret [(false, [(.v 12)])]))
  (.ret [(false, [(.c (.b false))])])))
  (.ret [(false, [(.c (.b false))])]))
theorem pte_Link_c : compile envIrW 3000 76 = .ok pte_Link_ir := by kernel_rfl
theorem pte_Link_p : paramShape Tryd.prog 76 = some [(true, 11)] := by kernel_rfl
theorem pte_Link_k : Known gAll 76 (.ir [(true, 11)] pte_Link_ir) := known_ir (E := envIrW) (n := 3000) rfl rfl pte_Link_c pte_Link_p
def atlasref09_Number_ir : IR :=
  (.lt (.bin .eql (.v 0) (.c (.i .i64 3))) (.ite (.v 2)
  (.chk (.inb (.cat (.one [(.c (.i .i64 12))]) (.cat (.one [(.c (.i .i64 13))]) (.one [(.c (.i .i64 15))]))) (.v 1) 1) (.chk (.inb (.cat (.one [(.c (.i .i64 12))]) (.cat (.one [(.c (.i .i64 13))]) (.one [(.c (.i .i64 15))]))) (.v 1) 1) (.ret [(false, [(.idx (.cat (.one [(.c (.i .i64 12))]) (.cat (.one [(.c (.i .i64 13))]) (.one [(.c (.i .i64 15))]))) (.v 1) 0)])])))
  (.chk (.inb (.cat (.one [(.c (.i .i64 0))]) (.cat (.one [(.c (.i .i64 4))]) (.one [(.c (.i .i64 6))]))) (.v 1) 1) (.chk (.inb (.cat (.one [(.c (.i .i64 0))]) (.cat (.one [(.c (.i .i64 4))]) (.one [(.c (.i .i64 6))]))) (.v 1) 1) (.lt (.bin .add (.idx (.cat (.one [(.c (.i .i64 0))]) (.cat (.one [(.c (.i .i64 4))]) (.one [(.c (.i .i64 6))]))) (.v 1) 0) (.v 0)) (.lt (.bin .sub (.v 3) (.c (.i .i64 1))) (.ret [(false, [(.v 4)])])))))))
theorem atlasref09_Number_c : compile envIrW 3000 80 = .ok atlasref09_Number_ir := by kernel_rfl
theorem atlasref09_Number_p : paramShape Tryd.prog 80 = some [(false, 1), (false, 1)] := by kernel_rfl
theorem atlasref09_Number_k : Known gAll 80 (.ir [(false, 1), (false, 1)] atlasref09_Number_ir) := known_ir (E := envIrW) (n := 3000) rfl rfl atlasref09_Number_c atlasref09_Number_p
def atlasref06_Get_ir : IR :=
  (.call 39 [(false, [(.v 0)]), (false, [(.c (.i .i64 0))])] [(false, 1)]
  (.call 39 [(false, [(.v 0)]), (false, [(.c (.i .i64 1))])] [(false, 1)]
  (.call 39 [(false, [(.v 0)]), (false, [(.c (.i .i64 2))])] [(false, 1)]
  (.call 39 [(false, [(.v 0)]), (false, [(.c (.i .i64 3))])] [(false, 1)]
  (.call 39 [(false, [(.v 0)]), (false, [(.c (.i .i64 4))])] [(false, 1)]
  (.call 39 [(false, [(.v 0)]), (false, [(.c (.i .i64 5))])] [(false, 1)]
  (.call 39 [(false, [(.v 0)]), (false, [(.c (.i .i64 6))])] [(false, 1)]
  (.call 39 [(false, [(.v 0)]), (false, [(.c (.i .i64 7))])] [(false, 1)]
  (.lt (.bin .quo (.v 0) (.c (.i .u64 256))) (.lt (.bin .rem (.v 9) (.c (.i .u64 4))) (.lt (.bin .quo (.v 0) (.c (.i .u64 1024))) (.lt (.bin .rem (.v 11) (.c (.i .u64 17592186044416))) (.lt (.bin .quo (.v 0) (.c (.i .u64 18014398509481984))) (.ret [(true, (vr 1 8 ++ [(.v 10), (.v 12), (.v 13)]))]))))))))))))))
theorem atlasref06_Get_c : compile envIrW 3000 81 = .ok atlasref06_Get_ir := by kernel_rfl
theorem atlasref06_Get_p : paramShape Tryd.prog 81 = some [(false, 1)] := by kernel_rfl
theorem atlasref06_Get_k : Known gAll 81 (.ir [(false, 1)] atlasref06_Get_ir) := known_ir (E := envIrW) (n := 3000) rfl rfl atlasref06_Get_c atlasref06_Get_p
def atlasref06_Bad_ir : IR :=
  (.lt (.un .not (.v 0)) (.ite (.v 12)
  (.ret [(false, [(.c (.b true))])])
  (.ite (.v 2)
  (.lt (.un .not (.v 1)) (.ite (.v 13)
  (.ret [(false, [(.c (.b true))])])
  (.lt (.bin .gtr (.v 10) (.c (.i .u64 0))) (.ite (.v 14)
  (.ret [(false, [(.c (.b true))])])
  (.lt (.un .not (.v 1)) (.ite (.v 15)
  (.lt (.un .not (.v 3)) (.ite (.v 16)
  (.lt (.bin .eql (.v 11) (.c (.i .i64 0))) (.ite (.v 17)
  (.ret [(false, [(.c (.b true))])])
  (.ite (.v 6)
  (.ret [(false, [(.c (.b true))])])
  (.ite (.v 7)
  (.ret [(false, [(.c (.b true))])])
  (.ret [(false, [(.v 4)])])))))
  (.lt (.bin .eql (.v 11) (.c (.i .i64 1))) (.ite (.v 17)
  (.lt (.bin .rem (.v 9) (.c (.i .u64 512))) (.lt (.bin .gtr (.v 18) (.c (.i .u64 0))) (.ret [(false, [(.v 19)])])))
  (.lt (.bin .eql (.v 11) (.c (.i .i64 2))) (.ite (.v 18)
  (.lt (.bin .rem (.v 9) (.c (.i .u64 262144))) (.lt (.bin .gtr (.v 19) (.c (.i .u64 0))) (.ret [(false, [(.v 20)])])))
  (.ret [(false, [(.c (.b false))])])))))))
  (.lt (.bin .eql (.v 11) (.c (.i .i64 1))) (.ite (.v 16)
  (.lt (.bin .rem (.v 9) (.c (.i .u64 512))) (.lt (.bin .gtr (.v 17) (.c (.i .u64 0))) (.ret [(false, [(.v 18)])])))
  (.lt (.bin .eql (.v 11) (.c (.i .i64 2))) (.ite (.v 17)
  (.lt (.bin .rem (.v 9) (.c (.i .u64 262144))) (.lt (.bin .gtr (.v 18) (.c (.i .u64 0))) (.ret [(false, [(.v 19)])])))
  (.ret [(false, [(.c (.b false))])])))))))))))
  (.lt (.bin .gtr (.v 10) (.c (.i .u64 0))) (.ite (.v 13)
  (.ret [(false, [(.c (.b true))])])
  (.lt (.un .not (.v 1)) (.ite (.v 14)
  (.lt (.un .not (.v 3)) (.ite (.v 15)
  (.lt (.bin .eql (.v 11) (.c (.i .i64 0))) (.ite (.v 16)
  (.ret [(false, [(.c (.b true))])])
  (.ite (.v 6)
  (.ret [(false, [(.c (.b true))])])
  (.ite (.v 7)
  (.ret [(false, [(.c (.b true))])])
  (.ret [(false, [(.v 4)])])))))
  (.lt (.bin .eql (.v 11) (.c (.i .i64 1))) (.ite (.v 16)
  (.lt (.bin .rem (.v 9) (.c (.i .u64 512))) (.lt (.bin .gtr (.v 17) (.c (.i .u64 0))) (.ret [(false, [(.v 18)])])))
  (.lt (.bin .eql (.v 11) (.c (.i .i64 2))) (.ite (.v 17)
  (.lt (.bin .rem (.v 9) (.c (.i .u64 262144))) (.lt (.bin .gtr (.v 18) (.c (.i .u64 0))) (.ret [(false, [(.v 19)])])))
  (.ret [(false, [(.c (.b false))])])))))))
  (.lt (.bin .eql (.v 11) (.c (.i .i64 1))) (.ite (.v 15)
  (.lt (.bin .rem (.v 9) (.c (.i .u64 512))) (.lt (.bin .gtr (.v 16) (.c (.i .u64 0))) (.ret [(false, [(.v 17)])])))
  (.lt (.bin .eql (.v 11) (.c (.i .i64 2))) (.ite (.v 16)
  (.lt (.bin .rem (.v 9) (.c (.i .u64 262144))) (.lt (.bin .gtr (.v 17) (.c (.i .u64 0))) (.ret [(false, [(.v 18)])])))
  (.ret [(false, [(.c (.b false))])]))))))))))))
theorem atlasref06_Bad_c : compile envIrW 3000 36 = .ok atlasref06_Bad_ir := by kernel_rfl
theorem atlasref06_Bad_p : paramShape Tryd.prog 36 = some [(true, 11), (false, 1)] := by kernel_rfl
theorem atlasref06_Bad_k : Known gAll 36 (.ir [(true, 11), (false, 1)] atlasref06_Bad_ir) := known_ir (E := envIrW) (n := 3000) rfl rfl atlasref06_Bad_c atlasref06_Bad_p
def atlasref06_Link_ir : IR :=
  (.ite (.v 0)
  (.call 57 [(true, (vr 0 11))] [(false, 1)]
  (.lt (.un .not (.v 11)) (.ret [(false, [(.v 12)])])))
  (.ret [(false, [(.c (.b false))])]))
theorem atlasref06_Link_c : compile envIrW 3000 28 = .ok atlasref06_Link_ir := by kernel_rfl
theorem atlasref06_Link_p : paramShape Tryd.prog 28 = some [(true, 11)] := by kernel_rfl
theorem atlasref06_Link_k : Known gAll 28 (.ir [(true, 11)] atlasref06_Link_ir) := known_ir (E := envIrW) (n := 3000) rfl rfl atlasref06_Link_c atlasref06_Link_p
def pte_May_ir : IR :=
  (.call 79 [(false, [(.v 8)]), (false, [(.c (.i .i64 0))]), (false, [(.c (.i .i64 2))])] [(false, 1)]
  (.lt (.bin .eql (.v 11) (.v 8)) (.ite (.v 12)
  (.call 79 [(false, [(.v 9)]), (false, [(.c (.i .i64 0))]), (false, [(.c (.i .i64 44))])] [(false, 1)]
  (.lt (.bin .eql (.v 13) (.v 9)) (.ite (.v 14)
  (.call 79 [(false, [(.v 10)]), (false, [(.c (.i .i64 0))]), (false, [(.c (.i .i64 10))])] [(false, 1)]
  (.lt (.bin .eql (.v 15) (.v 10)) (.ret [(false, [(.v 16)])])))
  (.ret [(false, [(.c (.b false))])]))))
  (.ret [(false, [(.c (.b false))])]))))
theorem pte_May_c : compile envIrW 3000 83 = .ok pte_May_ir := by kernel_rfl
theorem pte_May_p : paramShape Tryd.prog 83 = some [(true, 11)] := by kernel_rfl
theorem pte_May_k : Known gAll 83 (.ir [(true, 11)] pte_May_ir) := known_ir (E := envIrW) (n := 3000) rfl rfl pte_May_c pte_May_p
def pte_row_ir : IR :=
  (.lt (.len (.v 0)) (.loop [(.c (.i .u64 0)), (.c (.i .i64 0))]
  (.lt (.bin .lss (.v 3) (.v 1)) (.ite (.v 4)
  (.chk (.inb (.v 0) (.v 3) 1) (.call 95 [(false, [(.idx (.v 0) (.v 3) 0)])] [(false, 1)]
  (.call 69 [(false, [(.v 2)]), (false, [(.v 3)]), (false, [(.c (.i .i64 1))]), (false, [(.v 5)])] [(false, 1)]
  (.lt (.bin .add (.v 3) (.c (.i .i64 1))) (.cont 0 [(.v 6), (.v 7)])))))
  (.ret [(false, [(.v 2)])])))))
theorem pte_row_c : compile envIrW 3000 84 = .ok pte_row_ir := by kernel_rfl
theorem pte_row_p : paramShape Tryd.prog 84 = some [(false, 1)] := by kernel_rfl
theorem pte_row_k : Known gAll 84 (.ir [(false, 1)] pte_row_ir) := known_ir (E := envIrW) (n := 3000) rfl rfl pte_row_c pte_row_p
def atlasref06_Leaf_ir : IR :=
  (.ite (.v 0)
  (.ite (.v 1)
  (.ret [(false, [(.c (.b true))])])
  (.ite (.v 0)
  (.ret [(false, [(.v 3)])])
  (.ret [(false, [(.c (.b false))])])))
  (.ite (.v 0)
  (.ret [(false, [(.v 3)])])
  (.ret [(false, [(.c (.b false))])])))
theorem atlasref06_Leaf_c : compile envIrW 3000 57 = .ok atlasref06_Leaf_ir := by kernel_rfl
theorem atlasref06_Leaf_p : paramShape Tryd.prog 57 = some [(true, 11)] := by kernel_rfl
theorem atlasref06_Leaf_k : Known gAll 57 (.ir [(true, 11)] atlasref06_Leaf_ir) := known_ir (E := envIrW) (n := 3000) rfl rfl atlasref06_Leaf_c atlasref06_Leaf_p
def TIrW : Tbl :=
  (24, .ir [(true, 2), (false, 1), (false, 1), (false, 1)] atlasref10_Look_ir) ::
  (25, .ir [(true, 13), (false, 1)] atlasref10_Physical_ir) ::
  (26, .ir [(true, 11)] atlasref06_Perm_ir) ::
  (75, .ir [(false, 1)] pte_Get_ir) ::
  (49, .ir [(true, 11), (false, 1)] pte_Bad_ir) ::
  (50, .ir [(true, 11)] pte_Leaf_ir) ::
  (55, .ir [(false, 1), (false, 1), (false, 1)] atlasref09_Fault_ir) ::
  (56, .ir [(true, 2), (false, 1), (false, 1), (false, 1), (false, 1), (false, 1)] atlasref10_down_ir) ::
  (53, .ir [(true, 11)] pte_Perm_ir) ::
  (61, .ir [(true, 11)] pte_Put_ir) ::
  (capOff + 93, .irK [(false, 1)] [1] pte_Get_1_ir) ::
  (76, .ir [(true, 11)] pte_Link_ir) ::
  (80, .ir [(false, 1), (false, 1)] atlasref09_Number_ir) ::
  (81, .ir [(false, 1)] atlasref06_Get_ir) ::
  (36, .ir [(true, 11), (false, 1)] atlasref06_Bad_ir) ::
  (28, .ir [(true, 11)] atlasref06_Link_ir) ::
  (83, .ir [(true, 11)] pte_May_ir) ::
  (84, .ir [(false, 1)] pte_row_ir) ::
  (57, .ir [(true, 11)] atlasref06_Leaf_ir) ::
  []
theorem TIrW_ok : ∀ x ∈ TIrW, Known gAll x.1 x.2 :=
  kcons atlasref10_Look_k <|
  kcons atlasref10_Physical_k <|
  kcons atlasref06_Perm_k <|
  kcons pte_Get_k <|
  kcons pte_Bad_k <|
  kcons pte_Leaf_k <|
  kcons atlasref09_Fault_k <|
  kcons atlasref10_down_k <|
  kcons pte_Perm_k <|
  kcons pte_Put_k <|
  kcons pte_Get_1_k <|
  kcons pte_Link_k <|
  kcons atlasref09_Number_k <|
  kcons atlasref06_Get_k <|
  kcons atlasref06_Bad_k <|
  kcons atlasref06_Link_k <|
  kcons pte_May_k <|
  kcons pte_row_k <|
  kcons atlasref06_Leaf_k <|
  fun _ h => nomatch h
end Go.Proofs.YtnlilhpkjlodjaaDoor.Sx
