/-
 IRs of functions, printed by a program of mine (wip/tools/mkir.py, ev.run.lean); each is checked by the kernel against the executor.
-/
import Derived.Test.YtnkjmocacielmaaDoorZBf
import Derived.Test.YtnkjmocacielmaaDoorProg
namespace Go.Proofs.YtnkjmocacielmaaDoor.Sx
open Go
set_option maxRecDepth 100000
def inlenvIrW : List FuncId :=
 94 ::
 []
noncomputable def envIrW : Env := { P := Tryd.prog, G := gAll, inl := inlenvIrW, unr := [], ded := true }
def atlasref06_Perm_ir : IR :=
 (.ret [(true, (vr 1 4))])
theorem atlasref06_Perm_c : compile envIrW 3000 48 = .ok atlasref06_Perm_ir := by kernel_rfl
theorem atlasref06_Perm_p : paramShape Tryd.prog 48 = some [(true, 11)] := by kernel_rfl
def pte_Get_ir : IR :=
 (.call (capOff + 90) [(false, [(.c (.i .i64 1))]), (false, [(.c (.i .i64 0))]), (true, [(.v 0)])] [(false, 1)]
 (.call (capOff + 90) [(false, [(.c (.i .i64 1))]), (false, [(.c (.i .i64 1))]), (true, [(.v 0)])] [(false, 1)]
 (.call (capOff + 90) [(false, [(.c (.i .i64 1))]), (false, [(.c (.i .i64 2))]), (true, [(.v 0)])] [(false, 1)]
 (.call (capOff + 90) [(false, [(.c (.i .i64 1))]), (false, [(.c (.i .i64 3))]), (true, [(.v 0)])] [(false, 1)]
 (.call (capOff + 90) [(false, [(.c (.i .i64 1))]), (false, [(.c (.i .i64 4))]), (true, [(.v 0)])] [(false, 1)]
 (.call (capOff + 90) [(false, [(.c (.i .i64 1))]), (false, [(.c (.i .i64 5))]), (true, [(.v 0)])] [(false, 1)]
 (.call (capOff + 90) [(false, [(.c (.i .i64 1))]), (false, [(.c (.i .i64 6))]), (true, [(.v 0)])] [(false, 1)]
 (.call (capOff + 90) [(false, [(.c (.i .i64 1))]), (false, [(.c (.i .i64 7))]), (true, [(.v 0)])] [(false, 1)]
 (.call 77 [(false, [(.v 0)]), (false, [(.c (.i .i64 8))]), (false, [(.c (.i .i64 2))])] [(false, 1)]
 (.call 77 [(false, [(.v 0)]), (false, [(.c (.i .i64 10))]), (false, [(.c (.i .i64 44))])] [(false, 1)]
 (.call 77 [(false, [(.v 0)]), (false, [(.c (.i .i64 54))]), (false, [(.c (.i .i64 10))])] [(false, 1)]
 (.ret [(true, (vr 1 11))]))))))))))))
theorem pte_Get_c : compile envIrW 3000 75 = .ok pte_Get_ir := by kernel_rfl
theorem pte_Get_p : paramShape Tryd.prog 75 = some [(false, 1)] := by kernel_rfl
def pte_Bad_ir : IR :=
 (.lt (.un .not (.v 0)) (.ite (.v 12)
 (.ret [(false, [(.c (.b true))])])
 (.ite (.v 2)
 (.lt (.un .not (.v 1)) (.ite (.v 13)
 (.ret [(false, [(.c (.b true))])])
 (.lt (.bin .neq (.v 10) (.c (.i .u64 0))) (.ite (.v 14)
 (.ret [(false, [(.c (.b true))])])
 (.call 69 [(true, (vr 0 11))] [(false, 1)]
 (.ite (.v 15)
 (.lt (.bin .eql (.v 11) (.c (.i .i64 0))) (.ite (.v 16)
 (.ret [(false, [(.c (.b true))])])
 (.ite (.v 6)
 (.ret [(false, [(.c (.b true))])])
 (.ite (.v 7)
 (.ret [(false, [(.c (.b true))])])
 (.ret [(false, [(.v 4)])])))))
 (.call 37 [(false, [(.v 11)])] [(false, 1)]
 (.lt (.bin .quo (.v 16) (.c (.i .u64 4096))) (.call 86 [(false, [(.v 9)]), (false, [(.v 17)])] [(false, 1)]
 (.lt (.un .not (.v 18)) (.ret [(false, [(.v 19)])])))))))))))
 (.lt (.bin .neq (.v 10) (.c (.i .u64 0))) (.ite (.v 13)
 (.ret [(false, [(.c (.b true))])])
 (.call 69 [(true, (vr 0 11))] [(false, 1)]
 (.ite (.v 14)
 (.lt (.bin .eql (.v 11) (.c (.i .i64 0))) (.ite (.v 15)
 (.ret [(false, [(.c (.b true))])])
 (.ite (.v 6)
 (.ret [(false, [(.c (.b true))])])
 (.ite (.v 7)
 (.ret [(false, [(.c (.b true))])])
 (.ret [(false, [(.v 4)])])))))
 (.call 37 [(false, [(.v 11)])] [(false, 1)]
 (.lt (.bin .quo (.v 15) (.c (.i .u64 4096))) (.call 86 [(false, [(.v 9)]), (false, [(.v 16)])] [(false, 1)]
 (.lt (.un .not (.v 17)) (.ret [(false, [(.v 18)])]))))))))))))
theorem pte_Bad_c : compile envIrW 3000 70 = .ok pte_Bad_ir := by kernel_rfl
theorem pte_Bad_p : paramShape Tryd.prog 70 = some [(true, 11), (false, 1)] := by kernel_rfl
def pte_Leaf_ir : IR :=
 (.ite (.v 0)
 (.ite (.v 1)
 (.ret [(false, [(.c (.b true))])])
 (.ret [(false, [(.v 3)])]))
 (.ret [(false, [(.c (.b false))])]))
theorem pte_Leaf_c : compile envIrW 3000 34 = .ok pte_Leaf_ir := by kernel_rfl
theorem pte_Leaf_p : paramShape Tryd.prog 34 = some [(true, 11)] := by kernel_rfl
def pte_Put_ir : IR :=
 (.call 81 [(true, (vr 0 11))] [(false, 1)]
 (.lt (.un .not (.v 11)) (.ite (.v 12)
 (.ret [(false, [(.c (.i .u64 0))]), (false, [(.c (.i .i64 1))])])
 (.call 82 [(false, [(.cat (.one [(.v 0)]) (.cat (.one [(.v 1)]) (.cat (.one [(.v 2)]) (.cat (.one [(.v 3)]) (.cat (.one [(.v 4)]) (.cat (.one [(.v 5)]) (.cat (.one [(.v 6)]) (.one [(.v 7)]))))))))])] [(false, 1)]
 (.chk (.eqt false (.v 13) (.v 13)) (.call 79 [(false, [(.v 13)]), (false, [(.c (.i .i64 8))]), (false, [(.c (.i .i64 2))]), (false, [(.v 8)])] [(false, 1)]
 (.call 79 [(false, [(.v 14)]), (false, [(.c (.i .i64 10))]), (false, [(.c (.i .i64 44))]), (false, [(.v 9)])] [(false, 1)]
 (.call 79 [(false, [(.v 15)]), (false, [(.c (.i .i64 54))]), (false, [(.c (.i .i64 10))]), (false, [(.v 10)])] [(false, 1)]
 (.ret [(false, [(.v 16)]), (false, [(.c (.i .i64 0))])])))))))))
theorem pte_Put_c : compile envIrW 3000 61 = .ok pte_Put_ir := by kernel_rfl
theorem pte_Put_p : paramShape Tryd.prog 61 = some [(true, 11)] := by kernel_rfl
def pte_Get_1_ir : IR :=
 (.call 77 [(false, [(.v 1)]), (false, [(.v 0)]), (false, [(.c (.i .i64 1))])] [(false, 1)]
 (.lt (.bin .eql (.v 2) (.c (.i .u64 1))) (.ret [(false, [(.v 3)])])))
theorem pte_Get_1_c : compileK envIrW 3000 90 [1] = .ok pte_Get_1_ir := by kernel_rfl
theorem pte_Get_1_p : paramShape Tryd.prog 90 = some [(false, 1)] := by kernel_rfl
def pte_Link_ir : IR :=
 (.ite (.v 0)
 (.lt (.un .not (.v 1)) (.ite (.v 11)
 (.lt (.un .not (.v 3)) (.ret [(false, [(.v 12)])]))
 (.ret [(false, [(.c (.b false))])])))
 (.ret [(false, [(.c (.b false))])]))
theorem pte_Link_c : compile envIrW 3000 69 = .ok pte_Link_ir := by kernel_rfl
theorem pte_Link_p : paramShape Tryd.prog 69 = some [(true, 11)] := by kernel_rfl
def atlasref06_Get_ir : IR :=
 (.call 74 [(false, [(.v 0)]), (false, [(.c (.i .i64 0))])] [(false, 1)]
 (.call 74 [(false, [(.v 0)]), (false, [(.c (.i .i64 1))])] [(false, 1)]
 (.call 74 [(false, [(.v 0)]), (false, [(.c (.i .i64 2))])] [(false, 1)]
 (.call 74 [(false, [(.v 0)]), (false, [(.c (.i .i64 3))])] [(false, 1)]
 (.call 74 [(false, [(.v 0)]), (false, [(.c (.i .i64 4))])] [(false, 1)]
 (.call 74 [(false, [(.v 0)]), (false, [(.c (.i .i64 5))])] [(false, 1)]
 (.call 74 [(false, [(.v 0)]), (false, [(.c (.i .i64 6))])] [(false, 1)]
 (.call 74 [(false, [(.v 0)]), (false, [(.c (.i .i64 7))])] [(false, 1)]
 (.lt (.bin .quo (.v 0) (.c (.i .u64 256))) (.lt (.bin .rem (.v 9) (.c (.i .u64 4))) (.lt (.bin .quo (.v 0) (.c (.i .u64 1024))) (.lt (.bin .rem (.v 11) (.c (.i .u64 17592186044416))) (.lt (.bin .quo (.v 0) (.c (.i .u64 18014398509481984))) (.ret [(true, (vr 1 8 ++ [(.v 10), (.v 12), (.v 13)]))]))))))))))))))
theorem atlasref06_Get_c : compile envIrW 3000 64 = .ok atlasref06_Get_ir := by kernel_rfl
theorem atlasref06_Get_p : paramShape Tryd.prog 64 = some [(false, 1)] := by kernel_rfl
def atlasref06_Bad_ir : IR :=
 (.lt (.un .not (.v 0)) (.ite (.v 12)
 (.ret [(false, [(.c (.b true))])])
 (.ite (.v 2)
 (.lt (.un .not (.v 1)) (.ite (.v 13)
 (.ret [(false, [(.c (.b true))])])
 (.lt (.bin .gtr (.v 10) (.c (.i .u64 0))) (.ite (.v 14)
 (.ret [(false, [(.c (.b true))])])
 (.lt (.un .not (.v 1)) (.ite (.v 15)
 (.lt (.un .not (.v 3)) (.ite (.v 16)
 (.lt (.bin .eql (.v 11) (.c (.i .i64 0))) (.ite (.v 17)
 (.ret [(false, [(.c (.b true))])])
 (.ite (.v 6)
 (.ret [(false, [(.c (.b true))])])
 (.ite (.v 7)
 (.ret [(false, [(.c (.b true))])])
 (.ret [(false, [(.v 4)])])))))
 (.lt (.bin .eql (.v 11) (.c (.i .i64 1))) (.ite (.v 17)
 (.lt (.bin .rem (.v 9) (.c (.i .u64 512))) (.lt (.bin .gtr (.v 18) (.c (.i .u64 0))) (.ret [(false, [(.v 19)])])))
 (.lt (.bin .eql (.v 11) (.c (.i .i64 2))) (.ite (.v 18)
 (.lt (.bin .rem (.v 9) (.c (.i .u64 262144))) (.lt (.bin .gtr (.v 19) (.c (.i .u64 0))) (.ret [(false, [(.v 20)])])))
 (.ret [(false, [(.c (.b false))])])))))))
 (.lt (.bin .eql (.v 11) (.c (.i .i64 1))) (.ite (.v 16)
 (.lt (.bin .rem (.v 9) (.c (.i .u64 512))) (.lt (.bin .gtr (.v 17) (.c (.i .u64 0))) (.ret [(false, [(.v 18)])])))
 (.lt (.bin .eql (.v 11) (.c (.i .i64 2))) (.ite (.v 17)
 (.lt (.bin .rem (.v 9) (.c (.i .u64 262144))) (.lt (.bin .gtr (.v 18) (.c (.i .u64 0))) (.ret [(false, [(.v 19)])])))
 (.ret [(false, [(.c (.b false))])])))))))))))
 (.lt (.bin .gtr (.v 10) (.c (.i .u64 0))) (.ite (.v 13)
 (.ret [(false, [(.c (.b true))])])
 (.lt (.un .not (.v 1)) (.ite (.v 14)
 (.lt (.un .not (.v 3)) (.ite (.v 15)
 (.lt (.bin .eql (.v 11) (.c (.i .i64 0))) (.ite (.v 16)
 (.ret [(false, [(.c (.b true))])])
 (.ite (.v 6)
 (.ret [(false, [(.c (.b true))])])
 (.ite (.v 7)
 (.ret [(false, [(.c (.b true))])])
 (.ret [(false, [(.v 4)])])))))
 (.lt (.bin .eql (.v 11) (.c (.i .i64 1))) (.ite (.v 16)
 (.lt (.bin .rem (.v 9) (.c (.i .u64 512))) (.lt (.bin .gtr (.v 17) (.c (.i .u64 0))) (.ret [(false, [(.v 18)])])))
 (.lt (.bin .eql (.v 11) (.c (.i .i64 2))) (.ite (.v 17)
 (.lt (.bin .rem (.v 9) (.c (.i .u64 262144))) (.lt (.bin .gtr (.v 18) (.c (.i .u64 0))) (.ret [(false, [(.v 19)])])))
 (.ret [(false, [(.c (.b false))])])))))))
 (.lt (.bin .eql (.v 11) (.c (.i .i64 1))) (.ite (.v 15)
 (.lt (.bin .rem (.v 9) (.c (.i .u64 512))) (.lt (.bin .gtr (.v 16) (.c (.i .u64 0))) (.ret [(false, [(.v 17)])])))
 (.lt (.bin .eql (.v 11) (.c (.i .i64 2))) (.ite (.v 16)
 (.lt (.bin .rem (.v 9) (.c (.i .u64 262144))) (.lt (.bin .gtr (.v 17) (.c (.i .u64 0))) (.ret [(false, [(.v 18)])])))
 (.ret [(false, [(.c (.b false))])]))))))))))))
theorem atlasref06_Bad_c : compile envIrW 3000 45 = .ok atlasref06_Bad_ir := by kernel_rfl
theorem atlasref06_Bad_p : paramShape Tryd.prog 45 = some [(true, 11), (false, 1)] := by kernel_rfl
def atlasref06_Link_ir : IR :=
 (.ite (.v 0)
 (.call 16 [(true, (vr 0 11))] [(false, 1)]
 (.lt (.un .not (.v 11)) (.ret [(false, [(.v 12)])])))
 (.ret [(false, [(.c (.b false))])]))
theorem atlasref06_Link_c : compile envIrW 3000 41 = .ok atlasref06_Link_ir := by kernel_rfl
theorem atlasref06_Link_p : paramShape Tryd.prog 41 = some [(true, 11)] := by kernel_rfl
def pte_May_ir : IR :=
 (.call 77 [(false, [(.v 8)]), (false, [(.c (.i .i64 0))]), (false, [(.c (.i .i64 2))])] [(false, 1)]
 (.lt (.bin .eql (.v 11) (.v 8)) (.ite (.v 12)
 (.call 77 [(false, [(.v 9)]), (false, [(.c (.i .i64 0))]), (false, [(.c (.i .i64 44))])] [(false, 1)]
 (.lt (.bin .eql (.v 13) (.v 9)) (.ite (.v 14)
 (.call 77 [(false, [(.v 10)]), (false, [(.c (.i .i64 0))]), (false, [(.c (.i .i64 10))])] [(false, 1)]
 (.lt (.bin .eql (.v 15) (.v 10)) (.ret [(false, [(.v 16)])])))
 (.ret [(false, [(.c (.b false))])]))))
 (.ret [(false, [(.c (.b false))])]))))
theorem pte_May_c : compile envIrW 3000 81 = .ok pte_May_ir := by kernel_rfl
theorem pte_May_p : paramShape Tryd.prog 81 = some [(true, 11)] := by kernel_rfl
def pte_row_ir : IR :=
 (.lt (.len (.v 0)) (.loop [(.c (.i .u64 0)), (.c (.i .i64 0))]
 (.lt (.bin .lss (.v 3) (.v 1)) (.ite (.v 4)
 (.chk (.inb (.v 0) (.v 3) 1) (.call 95 [(false, [(.idx (.v 0) (.v 3) 0)])] [(false, 1)]
 (.call 79 [(false, [(.v 2)]), (false, [(.v 3)]), (false, [(.c (.i .i64 1))]), (false, [(.v 5)])] [(false, 1)]
 (.lt (.bin .add (.v 3) (.c (.i .i64 1))) (.cont 0 [(.v 6), (.v 7)])))))
 (.ret [(false, [(.v 2)])])))))
theorem pte_row_c : compile envIrW 3000 82 = .ok pte_row_ir := by kernel_rfl
theorem pte_row_p : paramShape Tryd.prog 82 = some [(false, 1)] := by kernel_rfl
def atlasref06_Leaf_ir : IR :=
 (.ite (.v 0)
 (.ite (.v 1)
 (.ret [(false, [(.c (.b true))])])
 (.ite (.v 0)
 (.ret [(false, [(.v 3)])])
 (.ret [(false, [(.c (.b false))])])))
 (.ite (.v 0)
 (.ret [(false, [(.v 3)])])
 (.ret [(false, [(.c (.b false))])])))
theorem atlasref06_Leaf_c : compile envIrW 3000 16 = .ok atlasref06_Leaf_ir := by kernel_rfl
theorem atlasref06_Leaf_p : paramShape Tryd.prog 16 = some [(true, 11)] := by kernel_rfl
end Go.Proofs.YtnkjmocacielmaaDoor.Sx
