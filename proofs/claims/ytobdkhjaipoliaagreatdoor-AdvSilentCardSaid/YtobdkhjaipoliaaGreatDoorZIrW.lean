/-
  IRs of functions, printed by a program of mine (wip/tools/mkir.py, ev.run.lean); each is checked by the kernel against the executor.
-/
import Derived.Test.YtobdkhjaipoliaaGreatDoorZBf
import Derived.Test.YtobdkhjaipoliaaGreatDoorProg
namespace Go.Proofs.YtobdkhjaipoliaaGreatDoor.Sx
open Go
set_option maxRecDepth 100000
def inlenvIrW : List FuncId :=
  58 ::
  106 ::
  []
noncomputable def envIrW : Env := { P := Tryz.prog, G := gAll, inl := inlenvIrW, unr := [], ded := true }
def walk_Look_ir : IR :=
  (.call 39 [(false, [(.v 3)])] [(false, 1)]
  (.lt (.un .not (.v 5)) (.ite (.v 6)
  (.call 40 [(false, [(.v 4)]), (false, [(.v 3)])] [(true, 3)]
  (.ret [(true, [(.c (.i .i64 0)), (.c (.i .u64 0)), (.c (.b false)), (.c (.b false)), (.c (.b false)), (.c (.b false)), (.c (.b false)), (.c (.b false)), (.c (.b false)), (.c (.b false)), (.c (.i .u64 0)), (.c (.i .u64 0)), (.c (.i .u64 0))]), (true, [(.v 7), (.v 8), (.v 9)])]))
  (.loop [(.c (.b false)), (.c (.i .i64 2)), (.v 2)]
  (.call 41 [(false, [(.v 9)]), (false, [(.v 3)]), (false, [(.v 8)])] [(false, 1)]
  (.call 42 [(true, [(.v 0), (.v 1)]), (false, [(.v 10)]), (false, [(.c (.i .i64 8))])] [(false, 1), (false, 1)]
  (.lt (.bin .neq (.v 12) (.c (.i .i64 0))) (.ite (.v 13)
  (.call 43 [(false, [(.v 4)]), (false, [(.v 3)])] [(true, 3)]
  (.ret [(true, [(.c (.i .i64 0)), (.c (.i .u64 0)), (.c (.b false)), (.c (.b false)), (.c (.b false)), (.c (.b false)), (.c (.b false)), (.c (.b false)), (.c (.b false)), (.c (.b false)), (.c (.i .u64 0)), (.c (.i .u64 0)), (.c (.i .u64 0))]), (true, [(.v 14), (.v 15), (.v 16)])]))
  (.call 44 [(false, [(.v 11)])] [(true, 11)]
  (.ite (.v 7)
  (.call 45 [(true, (vr 14 11)), (false, [(.v 8)])] [(false, 1)]
  (.ite (.v 25)
  (.call 40 [(false, [(.v 4)]), (false, [(.v 3)])] [(true, 3)]
  (.ret [(true, [(.c (.i .i64 0)), (.c (.i .u64 0)), (.c (.b false)), (.c (.b false)), (.c (.b false)), (.c (.b false)), (.c (.b false)), (.c (.b false)), (.c (.b false)), (.c (.b false)), (.c (.i .u64 0)), (.c (.i .u64 0)), (.c (.i .u64 0))]), (true, [(.v 26), (.v 27), (.v 28)])]))
  (.call 46 [(true, (vr 14 11))] [(false, 1)]
  (.ite (.v 26)
  (.ret [(true, ([(.v 8), (.v 10)] ++ vr 14 5 ++ [(.c (.b true))] ++ vr 20 5)), (true, [(.c (.b false)), (.c (.i .i64 0)), (.c (.i .u64 0))])])
  (.lt (.bin .sub (.v 8) (.c (.i .i64 1))) (.cont 0 [(.c (.b true)), (.v 27), (.v 23)]))))))
  (.call 45 [(true, (vr 14 11)), (false, [(.v 8)])] [(false, 1)]
  (.ite (.v 25)
  (.call 40 [(false, [(.v 4)]), (false, [(.v 3)])] [(true, 3)]
  (.ret [(true, [(.c (.i .i64 0)), (.c (.i .u64 0)), (.c (.b false)), (.c (.b false)), (.c (.b false)), (.c (.b false)), (.c (.b false)), (.c (.b false)), (.c (.b false)), (.c (.b false)), (.c (.i .u64 0)), (.c (.i .u64 0)), (.c (.i .u64 0))]), (true, [(.v 26), (.v 27), (.v 28)])]))
  (.call 46 [(true, (vr 14 11))] [(false, 1)]
  (.ite (.v 26)
  (.ret [(true, ([(.v 8), (.v 10)] ++ vr 14 11)), (true, [(.c (.b false)), (.c (.i .i64 0)), (.c (.i .u64 0))])])
  (.lt (.bin .sub (.v 8) (.c (.i .i64 1))) (.cont 0 [(.v 19), (.v 27), (.v 23)]))))))))))))))))
theorem walk_Look_c : compile envIrW 3000 23 = .ok walk_Look_ir := by kernel_rfl
theorem walk_Look_p : paramShape Tryz.prog 23 = some [(true, 2), (false, 1), (false, 1), (false, 1)] := by kernel_rfl
theorem walk_Look_k : Known gAll 23 (.ir [(true, 2), (false, 1), (false, 1), (false, 1)] walk_Look_ir) := known_ir (E := envIrW) (n := 3000) rfl rfl walk_Look_c walk_Look_p
def atlasref10_Look_ir : IR :=
  (.call 35 [(false, [(.v 3)])] [(false, 1)]
  (.lt (.un .not (.v 5)) (.ite (.v 6)
  (.call 36 [(false, [(.c (.i .i64 3))]), (false, [(.v 4)]), (false, [(.v 3)])] [(true, 3)]
  (.ret [(true, [(.c (.i .i64 0)), (.c (.i .u64 0)), (.c (.b false)), (.c (.b false)), (.c (.b false)), (.c (.b false)), (.c (.b false)), (.c (.b false)), (.c (.b false)), (.c (.b false)), (.c (.i .u64 0)), (.c (.i .u64 0)), (.c (.i .u64 0))]), (true, [(.v 7), (.v 8), (.v 9)])]))
  (.call 37 [(true, [(.v 0), (.v 1)]), (false, [(.v 2)]), (false, [(.v 3)]), (false, [(.v 4)]), (false, [(.c (.i .i64 2))]), (false, [(.c (.b false))])] [(true, 13), (true, 3)]
  (.ret [(true, (vr 7 13)), (true, [(.v 20), (.v 21), (.v 22)])])))))
theorem atlasref10_Look_c : compile envIrW 3000 19 = .ok atlasref10_Look_ir := by kernel_rfl
theorem atlasref10_Look_p : paramShape Tryz.prog 19 = some [(true, 2), (false, 1), (false, 1), (false, 1)] := by kernel_rfl
theorem atlasref10_Look_k : Known gAll 19 (.ir [(true, 2), (false, 1), (false, 1), (false, 1)] atlasref10_Look_ir) := known_ir (E := envIrW) (n := 3000) rfl rfl atlasref10_Look_c atlasref10_Look_p
def walk_Physical_ir : IR :=
  (.lt (.bin .mul (.v 11) (.c (.i .u64 4096))) (.call 94 [(false, [(.v 13)]), (false, [(.v 0)])] [(false, 1)]
  (.lt (.bin .add (.v 14) (.v 15)) (.ret [(false, [(.v 16)])]))))
theorem walk_Physical_c : compile envIrW 3000 65 = .ok walk_Physical_ir := by kernel_rfl
theorem walk_Physical_p : paramShape Tryz.prog 65 = some [(true, 13), (false, 1)] := by kernel_rfl
theorem walk_Physical_k : Known gAll 65 (.ir [(true, 13), (false, 1)] walk_Physical_ir) := known_ir (E := envIrW) (n := 3000) rfl rfl walk_Physical_c walk_Physical_p
def walk_Walk_ir : IR :=
  (.call 23 [(true, [(.v 0), (.v 1)]), (false, [(.v 2)]), (false, [(.v 3)]), (false, [(.v 4)])] [(true, 13), (true, 3)]
  (.ite (.v 21)
  (.ret [(true, [(.v 0), (.v 1)]), (true, [(.c (.i .i64 0)), (.c (.i .u64 0)), (.c (.b false)), (.c (.b false)), (.c (.b false)), (.c (.b false)), (.c (.b false)), (.c (.b false)), (.c (.b false)), (.c (.b false)), (.c (.i .u64 0)), (.c (.i .u64 0)), (.c (.i .u64 0))]), (true, [(.v 21), (.v 22), (.v 23)])])
  (.call 56 [(true, (vr 10 11))] [(true, 4)]
  (.call 96 [(true, (vr 24 4)), (true, (vr 4 4))] [(false, 1)]
  (.lt (.un .not (.v 28)) (.ite (.v 29)
  (.call 40 [(false, [(.v 4)]), (false, [(.v 3)])] [(true, 3)]
  (.ret [(true, [(.v 0), (.v 1)]), (true, [(.c (.i .i64 0)), (.c (.i .u64 0)), (.c (.b false)), (.c (.b false)), (.c (.b false)), (.c (.b false)), (.c (.b false)), (.c (.b false)), (.c (.b false)), (.c (.b false)), (.c (.i .u64 0)), (.c (.i .u64 0)), (.c (.i .u64 0))]), (true, [(.v 30), (.v 31), (.v 32)])]))
  (.lt (.bin .eql (.v 4) (.c (.i .i64 2))) (.call 24 [(true, [(.v 0), (.v 1)]), (true, (vr 8 13)), (false, [(.v 30)])] [(true, 2), (true, 13)]
  (.ret [(true, [(.v 31), (.v 32)]), (true, (vr 33 13)), (true, [(.c (.b false)), (.c (.i .i64 0)), (.c (.i .u64 0))])])))))))))
theorem walk_Walk_c : compile envIrW 3000 63 = .ok walk_Walk_ir := by kernel_rfl
theorem walk_Walk_p : paramShape Tryz.prog 63 = some [(true, 2), (false, 1), (false, 1), (true, 4)] := by kernel_rfl
theorem walk_Walk_k : Known gAll 63 (.ir [(true, 2), (false, 1), (false, 1), (true, 4)] walk_Walk_ir) := known_ir (E := envIrW) (n := 3000) rfl rfl walk_Walk_c walk_Walk_p
def walk_Mark_ir : IR :=
  (.call 47 [(true, [(.v 0), (.v 1)]), (false, [(.v 3)])] [(false, 1)]
  (.call 44 [(false, [(.v 16)])] [(true, 11)]
  (.ite (.v 24)
  (.call 48 [(true, (vr 17 6 ++ [(.c (.b true)), (.c (.b true)), (.v 25), (.v 26), (.v 27)]))] [(false, 1), (false, 1)]
  (.call 49 [(true, [(.v 0), (.v 1)]), (false, [(.v 3)]), (false, [(.c (.i .i64 8))]), (false, [(.v 28)])] [(true, 2), (false, 1)]
  (.ret [(true, [(.v 30), (.v 31)]), (true, (vr 2 8 ++ [(.c (.b true)), (.c (.b true)), (.v 12), (.v 13), (.v 14)]))])))
  (.call 48 [(true, (vr 17 6 ++ [(.c (.b true)), (.v 15), (.v 25), (.v 26), (.v 27)]))] [(false, 1), (false, 1)]
  (.call 49 [(true, [(.v 0), (.v 1)]), (false, [(.v 3)]), (false, [(.c (.i .i64 8))]), (false, [(.v 28)])] [(true, 2), (false, 1)]
  (.ret [(true, [(.v 30), (.v 31)]), (true, (vr 2 8 ++ [(.c (.b true)), (.v 15), (.v 12), (.v 13), (.v 14)]))]))))))
theorem walk_Mark_c : compile envIrW 3000 24 = .ok walk_Mark_ir := by kernel_rfl
theorem walk_Mark_p : paramShape Tryz.prog 24 = some [(true, 2), (true, 13), (false, 1)] := by kernel_rfl
theorem walk_Mark_k : Known gAll 24 (.ir [(true, 2), (true, 13), (false, 1)] walk_Mark_ir) := known_ir (E := envIrW) (n := 3000) rfl rfl walk_Mark_c walk_Mark_p
def atlasref06_Perm_ir : IR :=
  (.ret [(true, (vr 1 4))])
theorem atlasref06_Perm_c : compile envIrW 3000 21 = .ok atlasref06_Perm_ir := by kernel_rfl
theorem atlasref06_Perm_p : paramShape Tryz.prog 21 = some [(true, 11)] := by kernel_rfl
theorem atlasref06_Perm_k : Known gAll 21 (.ir [(true, 11)] atlasref06_Perm_ir) := known_ir (E := envIrW) (n := 3000) rfl rfl atlasref06_Perm_c atlasref06_Perm_p
def cause_Page_ir : IR :=
  (.chk (.rng (.v 0) 3) (.ret [(true, [(.c (.b true)), (selE (.v 0) 0 [(.c (.i .i64 12)), (.c (.i .i64 13)), (.c (.i .i64 15))]), (.v 1)])]))
theorem cause_Page_c : compile envIrW 3000 40 = .ok cause_Page_ir := by kernel_rfl
theorem cause_Page_p : paramShape Tryz.prog 40 = some [(false, 1), (false, 1)] := by kernel_rfl
theorem cause_Page_k : Known gAll 40 (.ir [(false, 1), (false, 1)] cause_Page_ir) := known_ir (E := envIrW) (n := 3000) rfl rfl cause_Page_c cause_Page_p
def walk_slot_ir : IR :=
  (.lt (.bin .mul (.v 0) (.c (.i .u64 4096))) (.call 77 [(false, [(.v 1)]), (false, [(.v 2)])] [(false, 1)]
  (.lt (.cv .u64 (.v 4)) (.lt (.bin .mul (.v 5) (.c (.i .u64 8))) (.lt (.bin .add (.v 3) (.v 6)) (.ret [(false, [(.v 7)])]))))))
theorem walk_slot_c : compile envIrW 3000 41 = .ok walk_slot_ir := by kernel_rfl
theorem walk_slot_p : paramShape Tryz.prog 41 = some [(false, 1), (false, 1), (false, 1)] := by kernel_rfl
theorem walk_slot_k : Known gAll 41 (.ir [(false, 1), (false, 1), (false, 1)] walk_slot_ir) := known_ir (E := envIrW) (n := 3000) rfl rfl walk_slot_c walk_slot_p
def cause_Access_ir : IR :=
  (.chk (.rng (.v 0) 3) (.ret [(true, [(.c (.b true)), (selE (.v 0) 0 [(.c (.i .i64 1)), (.c (.i .i64 5)), (.c (.i .i64 7))]), (.v 1)])]))
theorem cause_Access_c : compile envIrW 3000 43 = .ok cause_Access_ir := by kernel_rfl
theorem cause_Access_p : paramShape Tryz.prog 43 = some [(false, 1), (false, 1)] := by kernel_rfl
theorem cause_Access_k : Known gAll 43 (.ir [(false, 1), (false, 1)] cause_Access_ir) := known_ir (E := envIrW) (n := 3000) rfl rfl cause_Access_c cause_Access_p
def pte_Get_ir : IR :=
  (.call (capOff + 80) [(false, [(.c (.i .i64 1))]), (false, [(.c (.i .i64 0))]), (true, [(.v 0)])] [(false, 1)]
  (.call (capOff + 80) [(false, [(.c (.i .i64 1))]), (false, [(.c (.i .i64 1))]), (true, [(.v 0)])] [(false, 1)]
  (.call (capOff + 80) [(false, [(.c (.i .i64 1))]), (false, [(.c (.i .i64 2))]), (true, [(.v 0)])] [(false, 1)]
  (.call (capOff + 80) [(false, [(.c (.i .i64 1))]), (false, [(.c (.i .i64 3))]), (true, [(.v 0)])] [(false, 1)]
  (.call (capOff + 80) [(false, [(.c (.i .i64 1))]), (false, [(.c (.i .i64 4))]), (true, [(.v 0)])] [(false, 1)]
  (.call (capOff + 80) [(false, [(.c (.i .i64 1))]), (false, [(.c (.i .i64 5))]), (true, [(.v 0)])] [(false, 1)]
  (.call (capOff + 80) [(false, [(.c (.i .i64 1))]), (false, [(.c (.i .i64 6))]), (true, [(.v 0)])] [(false, 1)]
  (.call (capOff + 80) [(false, [(.c (.i .i64 1))]), (false, [(.c (.i .i64 7))]), (true, [(.v 0)])] [(false, 1)]
  (.call 79 [(false, [(.v 0)]), (false, [(.c (.i .i64 8))]), (false, [(.c (.i .i64 2))])] [(false, 1)]
  (.call 79 [(false, [(.v 0)]), (false, [(.c (.i .i64 10))]), (false, [(.c (.i .i64 44))])] [(false, 1)]
  (.call 79 [(false, [(.v 0)]), (false, [(.c (.i .i64 54))]), (false, [(.c (.i .i64 10))])] [(false, 1)]
  (.ret [(true, (vr 1 11))]))))))))))))
theorem pte_Get_c : compile envIrW 3000 44 = .ok pte_Get_ir := by kernel_rfl
theorem pte_Get_p : paramShape Tryz.prog 44 = some [(false, 1)] := by kernel_rfl
theorem pte_Get_k : Known gAll 44 (.ir [(false, 1)] pte_Get_ir) := known_ir (E := envIrW) (n := 3000) rfl rfl pte_Get_c pte_Get_p
def pte_Bad_ir : IR :=
  (.lt (.un .not (.v 0)) (.ite (.v 12)
  (.ret [(false, [(.c (.b true))])])
  (.ite (.v 2)
  (.lt (.un .not (.v 1)) (.ite (.v 13)
  (.ret [(false, [(.c (.b true))])])
  (.lt (.bin .neq (.v 10) (.c (.i .u64 0))) (.ite (.v 14)
  (.ret [(false, [(.c (.b true))])])
  (.call 81 [(true, (vr 0 11))] [(false, 1)]
  (.ite (.v 15)
  (.lt (.bin .eql (.v 11) (.c (.i .i64 0))) (.ite (.v 16)
  (.ret [(false, [(.c (.b true))])])
  (.ite (.v 6)
  (.ret [(false, [(.c (.b true))])])
  (.ite (.v 7)
  (.ret [(false, [(.c (.b true))])])
  (.ret [(false, [(.v 4)])])))))
  (.call 82 [(false, [(.v 11)])] [(false, 1)]
  (.lt (.bin .quo (.v 16) (.c (.i .u64 4096))) (.call 28 [(false, [(.v 9)]), (false, [(.v 17)])] [(false, 1)]
  (.lt (.un .not (.v 18)) (.ret [(false, [(.v 19)])])))))))))))
  (.lt (.bin .neq (.v 10) (.c (.i .u64 0))) (.ite (.v 13)
  (.ret [(false, [(.c (.b true))])])
  (.call 81 [(true, (vr 0 11))] [(false, 1)]
  (.ite (.v 14)
  (.lt (.bin .eql (.v 11) (.c (.i .i64 0))) (.ite (.v 15)
  (.ret [(false, [(.c (.b true))])])
  (.ite (.v 6)
  (.ret [(false, [(.c (.b true))])])
  (.ite (.v 7)
  (.ret [(false, [(.c (.b true))])])
  (.ret [(false, [(.v 4)])])))))
  (.call 82 [(false, [(.v 11)])] [(false, 1)]
  (.lt (.bin .quo (.v 15) (.c (.i .u64 4096))) (.call 28 [(false, [(.v 9)]), (false, [(.v 16)])] [(false, 1)]
  (.lt (.un .not (.v 17)) (.ret [(false, [(.v 18)])]))))))))))))
theorem pte_Bad_c : compile envIrW 3000 45 = .ok pte_Bad_ir := by kernel_rfl
theorem pte_Bad_p : paramShape Tryz.prog 45 = some [(true, 11), (false, 1)] := by kernel_rfl
theorem pte_Bad_k : Known gAll 45 (.ir [(true, 11), (false, 1)] pte_Bad_ir) := known_ir (E := envIrW) (n := 3000) rfl rfl pte_Bad_c pte_Bad_p
def pte_Leaf_ir : IR :=
  (.ite (.v 0)
  (.ite (.v 1)
  (.ret [(false, [(.c (.b true))])])
  (.ret [(false, [(.v 3)])]))
  (.ret [(false, [(.c (.b false))])]))
theorem pte_Leaf_c : compile envIrW 3000 46 = .ok pte_Leaf_ir := by kernel_rfl
theorem pte_Leaf_p : paramShape Tryz.prog 46 = some [(true, 11)] := by kernel_rfl
theorem pte_Leaf_k : Known gAll 46 (.ir [(true, 11)] pte_Leaf_ir) := known_ir (E := envIrW) (n := 3000) rfl rfl pte_Leaf_c pte_Leaf_p
def atlasref09_Fault_ir : IR :=
  (.call 68 [(false, [(.v 0)]), (false, [(.v 1)])] [(false, 1)]
  (.ret [(true, [(.c (.b true)), (.v 3), (.v 2)])]))
theorem atlasref09_Fault_c : compile envIrW 3000 36 = .ok atlasref09_Fault_ir := by kernel_rfl
theorem atlasref09_Fault_p : paramShape Tryz.prog 36 = some [(false, 1), (false, 1), (false, 1)] := by kernel_rfl
theorem atlasref09_Fault_k : Known gAll 36 (.ir [(false, 1), (false, 1), (false, 1)] atlasref09_Fault_ir) := known_ir (E := envIrW) (n := 3000) rfl rfl atlasref09_Fault_c atlasref09_Fault_p
def atlasref10_down_ir : IR :=
  (.lt (.bin .mul (.c (.i .u64 4096)) (.v 2)) (.call 69 [(false, [(.v 3)]), (false, [(.v 5)])] [(false, 1)]
  (.lt (.cv .u64 (.v 8)) (.lt (.bin .mul (.c (.i .u64 8)) (.v 9)) (.lt (.bin .add (.v 7) (.v 10)) (.lt (.bin .geq (.v 11) (.v 0)) (.ite (.v 12)
  (.call 36 [(false, [(.c (.i .i64 2))]), (false, [(.v 4)]), (false, [(.v 3)])] [(true, 3)]
  (.ret [(true, [(.c (.i .i64 0)), (.c (.i .u64 0)), (.c (.b false)), (.c (.b false)), (.c (.b false)), (.c (.b false)), (.c (.b false)), (.c (.b false)), (.c (.b false)), (.c (.b false)), (.c (.i .u64 0)), (.c (.i .u64 0)), (.c (.i .u64 0))]), (true, [(.v 13), (.v 14), (.v 15)])]))
  (.call 71 [(true, [(.v 0), (.v 1)]), (false, [(.v 11)])] [(false, 1)]
  (.call 70 [(false, [(.v 13)])] [(true, 11)]
  (.call 72 [(true, (vr 14 11)), (false, [(.v 5)])] [(false, 1)]
  (.ite (.v 25)
  (.call 36 [(false, [(.c (.i .i64 3))]), (false, [(.v 4)]), (false, [(.v 3)])] [(true, 3)]
  (.ret [(true, [(.c (.i .i64 0)), (.c (.i .u64 0)), (.c (.b false)), (.c (.b false)), (.c (.b false)), (.c (.b false)), (.c (.b false)), (.c (.b false)), (.c (.b false)), (.c (.b false)), (.c (.i .u64 0)), (.c (.i .u64 0)), (.c (.i .u64 0))]), (true, [(.v 26), (.v 27), (.v 28)])]))
  (.call 73 [(true, (vr 14 11))] [(false, 1)]
  (.ite (.v 26)
  (.lt (.bin .sub (.v 5) (.c (.i .i64 1))) (.ite (.v 6)
  (.call 37 [(true, [(.v 0), (.v 1)]), (false, [(.v 23)]), (false, [(.v 3)]), (false, [(.v 4)]), (false, [(.v 27)]), (false, [(.c (.b true))])] [(true, 13), (true, 3)]
  (.ret [(true, (vr 28 13)), (true, [(.v 41), (.v 42), (.v 43)])]))
  (.call 37 [(true, [(.v 0), (.v 1)]), (false, [(.v 23)]), (false, [(.v 3)]), (false, [(.v 4)]), (false, [(.v 27)]), (false, [(.v 19)])] [(true, 13), (true, 3)]
  (.ret [(true, (vr 28 13)), (true, [(.v 41), (.v 42), (.v 43)])]))))
  (.ite (.v 19)
  (.ret [(true, ([(.v 5), (.v 11)] ++ vr 14 5 ++ [(.c (.b true))] ++ vr 20 5)), (true, [(.c (.b false)), (.c (.i .i64 0)), (.c (.i .u64 0))])])
  (.ret [(true, ([(.v 5), (.v 11)] ++ vr 14 5 ++ [(.v 6)] ++ vr 20 5)), (true, [(.c (.b false)), (.c (.i .i64 0)), (.c (.i .u64 0))])])))))))))))))))
theorem atlasref10_down_c : compile envIrW 3000 37 = .ok atlasref10_down_ir := by kernel_rfl
theorem atlasref10_down_p : paramShape Tryz.prog 37 = some [(true, 2), (false, 1), (false, 1), (false, 1), (false, 1), (false, 1)] := by kernel_rfl
theorem atlasref10_down_k : Known gAll 37 (.ir [(true, 2), (false, 1), (false, 1), (false, 1), (false, 1), (false, 1)] atlasref10_down_ir) := known_ir (E := envIrW) (n := 3000) rfl rfl atlasref10_down_c atlasref10_down_p
def perm_Allows_ir : IR :=
  (.call 117 [(true, (vr 0 4)), (true, (vr 4 4))] [(false, 1)]
  (.ite (.v 8)
  (.chk (.rng (.v 4) 3) (.ite (.isk (.v 4) 0)
  (.call 142 [(true, (vr 0 4)), (true, (vr 4 4))] [(false, 1)]
  (.ret [(false, [(.v 9)])]))
  (.ite (.isk (.v 4) 1)
  (.call 143 [(true, (vr 0 4)), (true, (vr 4 4))] [(false, 1)]
  (.ret [(false, [(.v 9)])]))
  (.call 144 [(true, (vr 0 4)), (true, (vr 4 4))] [(false, 1)]
  (.ret [(false, [(.v 9)])])))))
  (.ret [(false, [(.c (.b false))])])))
theorem perm_Allows_c : compile envIrW 3000 96 = .ok perm_Allows_ir := by kernel_rfl
theorem perm_Allows_p : paramShape Tryz.prog 96 = some [(true, 4), (true, 4)] := by kernel_rfl
theorem perm_Allows_k : Known gAll 96 (.ir [(true, 4), (true, 4)] perm_Allows_ir) := known_ir (E := envIrW) (n := 3000) rfl rfl perm_Allows_c perm_Allows_p
def pte_Perm_ir : IR :=
  (.ret [(true, (vr 1 4))])
theorem pte_Perm_c : compile envIrW 3000 56 = .ok pte_Perm_ir := by kernel_rfl
theorem pte_Perm_p : paramShape Tryz.prog 56 = some [(true, 11)] := by kernel_rfl
theorem pte_Perm_k : Known gAll 56 (.ir [(true, 11)] pte_Perm_ir) := known_ir (E := envIrW) (n := 3000) rfl rfl pte_Perm_c pte_Perm_p
def pte_Put_ir : IR :=
  (.call 84 [(true, (vr 0 11))] [(false, 1)]
  (.lt (.un .not (.v 11)) (.ite (.v 12)
  (.ret [(false, [(.c (.i .u64 0))]), (false, [(.c (.i .i64 1))])])
  (.call 85 [(false, [(.cat (.one [(.v 0)]) (.cat (.one [(.v 1)]) (.cat (.one [(.v 2)]) (.cat (.one [(.v 3)]) (.cat (.one [(.v 4)]) (.cat (.one [(.v 5)]) (.cat (.one [(.v 6)]) (.one [(.v 7)]))))))))])] [(false, 1)]
  (.chk (.eqt false (.v 13) (.v 13)) (.call 86 [(false, [(.v 13)]), (false, [(.c (.i .i64 8))]), (false, [(.c (.i .i64 2))]), (false, [(.v 8)])] [(false, 1)]
  (.call 86 [(false, [(.v 14)]), (false, [(.c (.i .i64 10))]), (false, [(.c (.i .i64 44))]), (false, [(.v 9)])] [(false, 1)]
  (.call 86 [(false, [(.v 15)]), (false, [(.c (.i .i64 54))]), (false, [(.c (.i .i64 10))]), (false, [(.v 10)])] [(false, 1)]
  (.ret [(false, [(.v 16)]), (false, [(.c (.i .i64 0))])])))))))))
theorem pte_Put_c : compile envIrW 3000 48 = .ok pte_Put_ir := by kernel_rfl
theorem pte_Put_p : paramShape Tryz.prog 48 = some [(true, 11)] := by kernel_rfl
theorem pte_Put_k : Known gAll 48 (.ir [(true, 11)] pte_Put_ir) := known_ir (E := envIrW) (n := 3000) rfl rfl pte_Put_c pte_Put_p
def pte_Get_1_ir : IR :=
  (.call 79 [(false, [(.v 1)]), (false, [(.v 0)]), (false, [(.c (.i .i64 1))])] [(false, 1)]
  (.lt (.bin .eql (.v 2) (.c (.i .u64 1))) (.ret [(false, [(.v 3)])])))
theorem pte_Get_1_c : compileK envIrW 3000 80 [1] = .ok pte_Get_1_ir := by kernel_rfl
theorem pte_Get_1_p : paramShape Tryz.prog 80 = some [(false, 1)] := by kernel_rfl
theorem pte_Get_1_k : Known gAll (capOff + 80) (.irK [(false, 1)] [1] pte_Get_1_ir) := known_irK (E := envIrW) (n := 3000) rfl rfl pte_Get_1_c pte_Get_1_p
def pte_Link_ir : IR :=
  (.ite (.v 0)
  (.lt (.un .not (.v 1)) (.ite (.v 11)
  (.lt (.un .not (.v 3)) (.ret [(false, [(.v 12)])]))
  (.ret [(false, [(.c (.b false))])])))
  (.ret [(false, [(.c (.b false))])]))
theorem pte_Link_c : compile envIrW 3000 81 = .ok pte_Link_ir := by kernel_rfl
theorem pte_Link_p : paramShape Tryz.prog 81 = some [(true, 11)] := by kernel_rfl
theorem pte_Link_k : Known gAll 81 (.ir [(true, 11)] pte_Link_ir) := known_ir (E := envIrW) (n := 3000) rfl rfl pte_Link_c pte_Link_p
def atlasref09_Number_ir : IR :=
  (.lt (.bin .eql (.v 0) (.c (.i .i64 3))) (.ite (.v 2)
  (.chk (.inb (.cat (.one [(.c (.i .i64 12))]) (.cat (.one [(.c (.i .i64 13))]) (.one [(.c (.i .i64 15))]))) (.v 1) 1) (.chk (.inb (.cat (.one [(.c (.i .i64 12))]) (.cat (.one [(.c (.i .i64 13))]) (.one [(.c (.i .i64 15))]))) (.v 1) 1) (.ret [(false, [(.idx (.cat (.one [(.c (.i .i64 12))]) (.cat (.one [(.c (.i .i64 13))]) (.one [(.c (.i .i64 15))]))) (.v 1) 0)])])))
  (.chk (.inb (.cat (.one [(.c (.i .i64 0))]) (.cat (.one [(.c (.i .i64 4))]) (.one [(.c (.i .i64 6))]))) (.v 1) 1) (.chk (.inb (.cat (.one [(.c (.i .i64 0))]) (.cat (.one [(.c (.i .i64 4))]) (.one [(.c (.i .i64 6))]))) (.v 1) 1) (.lt (.bin .add (.idx (.cat (.one [(.c (.i .i64 0))]) (.cat (.one [(.c (.i .i64 4))]) (.one [(.c (.i .i64 6))]))) (.v 1) 0) (.v 0)) (.lt (.bin .sub (.v 3) (.c (.i .i64 1))) (.ret [(false, [(.v 4)])])))))))
theorem atlasref09_Number_c : compile envIrW 3000 68 = .ok atlasref09_Number_ir := by kernel_rfl
theorem atlasref09_Number_p : paramShape Tryz.prog 68 = some [(false, 1), (false, 1)] := by kernel_rfl
theorem atlasref09_Number_k : Known gAll 68 (.ir [(false, 1), (false, 1)] atlasref09_Number_ir) := known_ir (E := envIrW) (n := 3000) rfl rfl atlasref09_Number_c atlasref09_Number_p
def atlasref06_Get_ir : IR :=
  (.call 74 [(false, [(.v 0)]), (false, [(.c (.i .i64 0))])] [(false, 1)]
  (.call 74 [(false, [(.v 0)]), (false, [(.c (.i .i64 1))])] [(false, 1)]
  (.call 74 [(false, [(.v 0)]), (false, [(.c (.i .i64 2))])] [(false, 1)]
  (.call 74 [(false, [(.v 0)]), (false, [(.c (.i .i64 3))])] [(false, 1)]
  (.call 74 [(false, [(.v 0)]), (false, [(.c (.i .i64 4))])] [(false, 1)]
  (.call 74 [(false, [(.v 0)]), (false, [(.c (.i .i64 5))])] [(false, 1)]
  (.call 74 [(false, [(.v 0)]), (false, [(.c (.i .i64 6))])] [(false, 1)]
  (.call 74 [(false, [(.v 0)]), (false, [(.c (.i .i64 7))])] [(false, 1)]
  (.lt (.bin .quo (.v 0) (.c (.i .u64 256))) (.lt (.bin .rem (.v 9) (.c (.i .u64 4))) (.lt (.bin .quo (.v 0) (.c (.i .u64 1024))) (.lt (.bin .rem (.v 11) (.c (.i .u64 17592186044416))) (.lt (.bin .quo (.v 0) (.c (.i .u64 18014398509481984))) (.ret [(true, (vr 1 8 ++ [(.v 10), (.v 12), (.v 13)]))]))))))))))))))
theorem atlasref06_Get_c : compile envIrW 3000 70 = .ok atlasref06_Get_ir := by kernel_rfl
theorem atlasref06_Get_p : paramShape Tryz.prog 70 = some [(false, 1)] := by kernel_rfl
theorem atlasref06_Get_k : Known gAll 70 (.ir [(false, 1)] atlasref06_Get_ir) := known_ir (E := envIrW) (n := 3000) rfl rfl atlasref06_Get_c atlasref06_Get_p
def atlasref06_Bad_ir : IR :=
  (.lt (.un .not (.v 0)) (.ite (.v 12)
  (.ret [(false, [(.c (.b true))])])
  (.ite (.v 2)
  (.lt (.un .not (.v 1)) (.ite (.v 13)
  (.ret [(false, [(.c (.b true))])])
  (.lt (.bin .gtr (.v 10) (.c (.i .u64 0))) (.ite (.v 14)
  (.ret [(false, [(.c (.b true))])])
  (.lt (.un .not (.v 1)) (.ite (.v 15)
  (.lt (.un .not (.v 3)) (.ite (.v 16)
  (.lt (.bin .eql (.v 11) (.c (.i .i64 0))) (.ite (.v 17)
  (.ret [(false, [(.c (.b true))])])
  (.ite (.v 6)
  (.ret [(false, [(.c (.b true))])])
  (.ite (.v 7)
  (.ret [(false, [(.c (.b true))])])
  (.ret [(false, [(.v 4)])])))))
  (.lt (.bin .eql (.v 11) (.c (.i .i64 1))) (.ite (.v 17)
  (.lt (.bin .rem (.v 9) (.c (.i .u64 512))) (.lt (.bin .gtr (.v 18) (.c (.i .u64 0))) (.ret [(false, [(.v 19)])])))
  (.lt (.bin .eql (.v 11) (.c (.i .i64 2))) (.ite (.v 18)
  (.lt (.bin .rem (.v 9) (.c (.i .u64 262144))) (.lt (.bin .gtr (.v 19) (.c (.i .u64 0))) (.ret [(false, [(.v 20)])])))
  (.ret [(false, [(.c (.b false))])])))))))
  (.lt (.bin .eql (.v 11) (.c (.i .i64 1))) (.ite (.v 16)
  (.lt (.bin .rem (.v 9) (.c (.i .u64 512))) (.lt (.bin .gtr (.v 17) (.c (.i .u64 0))) (.ret [(false, [(.v 18)])])))
  (.lt (.bin .eql (.v 11) (.c (.i .i64 2))) (.ite (.v 17)
  (.lt (.bin .rem (.v 9) (.c (.i .u64 262144))) (.lt (.bin .gtr (.v 18) (.c (.i .u64 0))) (.ret [(false, [(.v 19)])])))
  (.ret [(false, [(.c (.b false))])])))))))))))
  (.lt (.bin .gtr (.v 10) (.c (.i .u64 0))) (.ite (.v 13)
  (.ret [(false, [(.c (.b true))])])
  (.lt (.un .not (.v 1)) (.ite (.v 14)
  (.lt (.un .not (.v 3)) (.ite (.v 15)
  (.lt (.bin .eql (.v 11) (.c (.i .i64 0))) (.ite (.v 16)
  (.ret [(false, [(.c (.b true))])])
  (.ite (.v 6)
  (.ret [(false, [(.c (.b true))])])
  (.ite (.v 7)
  (.ret [(false, [(.c (.b true))])])
  (.ret [(false, [(.v 4)])])))))
  (.lt (.bin .eql (.v 11) (.c (.i .i64 1))) (.ite (.v 16)
  (.lt (.bin .rem (.v 9) (.c (.i .u64 512))) (.lt (.bin .gtr (.v 17) (.c (.i .u64 0))) (.ret [(false, [(.v 18)])])))
  (.lt (.bin .eql (.v 11) (.c (.i .i64 2))) (.ite (.v 17)
  (.lt (.bin .rem (.v 9) (.c (.i .u64 262144))) (.lt (.bin .gtr (.v 18) (.c (.i .u64 0))) (.ret [(false, [(.v 19)])])))
  (.ret [(false, [(.c (.b false))])])))))))
  (.lt (.bin .eql (.v 11) (.c (.i .i64 1))) (.ite (.v 15)
  (.lt (.bin .rem (.v 9) (.c (.i .u64 512))) (.lt (.bin .gtr (.v 16) (.c (.i .u64 0))) (.ret [(false, [(.v 17)])])))
  (.lt (.bin .eql (.v 11) (.c (.i .i64 2))) (.ite (.v 16)
  (.lt (.bin .rem (.v 9) (.c (.i .u64 262144))) (.lt (.bin .gtr (.v 17) (.c (.i .u64 0))) (.ret [(false, [(.v 18)])])))
  (.ret [(false, [(.c (.b false))])]))))))))))))
theorem atlasref06_Bad_c : compile envIrW 3000 72 = .ok atlasref06_Bad_ir := by kernel_rfl
theorem atlasref06_Bad_p : paramShape Tryz.prog 72 = some [(true, 11), (false, 1)] := by kernel_rfl
theorem atlasref06_Bad_k : Known gAll 72 (.ir [(true, 11), (false, 1)] atlasref06_Bad_ir) := known_ir (E := envIrW) (n := 3000) rfl rfl atlasref06_Bad_c atlasref06_Bad_p
def atlasref06_Link_ir : IR :=
  (.ite (.v 0)
  (.call 100 [(true, (vr 0 11))] [(false, 1)]
  (.lt (.un .not (.v 11)) (.ret [(false, [(.v 12)])])))
  (.ret [(false, [(.c (.b false))])]))
theorem atlasref06_Link_c : compile envIrW 3000 73 = .ok atlasref06_Link_ir := by kernel_rfl
theorem atlasref06_Link_p : paramShape Tryz.prog 73 = some [(true, 11)] := by kernel_rfl
theorem atlasref06_Link_k : Known gAll 73 (.ir [(true, 11)] atlasref06_Link_ir) := known_ir (E := envIrW) (n := 3000) rfl rfl atlasref06_Link_c atlasref06_Link_p
def perm_reaches_ir : IR :=
  (.lt (.bin .eql (.v 5) (.c (.i .i64 0))) (.ite (.v 8)
  (.lt (.bin .eql (.v 5) (.c (.i .i64 0))) (.lt (.eqt true (.v 9) (.v 3)) (.ret [(false, [(.v 10)])])))
  (.lt (.un .not (.v 3)) (.ite (.v 9)
  (.lt (.bin .eql (.v 5) (.c (.i .i64 0))) (.lt (.eqt true (.v 10) (.v 3)) (.ret [(false, [(.v 11)])])))
  (.lt (.bin .neq (.v 4) (.c (.i .i64 0))) (.ite (.v 10)
  (.ret [(false, [(.v 6)])])
  (.ret [(false, [(.c (.b false))])])))))))
theorem perm_reaches_c : compile envIrW 3000 117 = .ok perm_reaches_ir := by kernel_rfl
theorem perm_reaches_p : paramShape Tryz.prog 117 = some [(true, 4), (true, 4)] := by kernel_rfl
theorem perm_reaches_k : Known gAll 117 (.ir [(true, 4), (true, 4)] perm_reaches_ir) := known_ir (E := envIrW) (n := 3000) rfl rfl perm_reaches_c perm_reaches_p
def pte_May_ir : IR :=
  (.call 79 [(false, [(.v 8)]), (false, [(.c (.i .i64 0))]), (false, [(.c (.i .i64 2))])] [(false, 1)]
  (.lt (.bin .eql (.v 11) (.v 8)) (.ite (.v 12)
  (.call 79 [(false, [(.v 9)]), (false, [(.c (.i .i64 0))]), (false, [(.c (.i .i64 44))])] [(false, 1)]
  (.lt (.bin .eql (.v 13) (.v 9)) (.ite (.v 14)
  (.call 79 [(false, [(.v 10)]), (false, [(.c (.i .i64 0))]), (false, [(.c (.i .i64 10))])] [(false, 1)]
  (.lt (.bin .eql (.v 15) (.v 10)) (.ret [(false, [(.v 16)])])))
  (.ret [(false, [(.c (.b false))])]))))
  (.ret [(false, [(.c (.b false))])]))))
theorem pte_May_c : compile envIrW 3000 84 = .ok pte_May_ir := by kernel_rfl
theorem pte_May_p : paramShape Tryz.prog 84 = some [(true, 11)] := by kernel_rfl
theorem pte_May_k : Known gAll 84 (.ir [(true, 11)] pte_May_ir) := known_ir (E := envIrW) (n := 3000) rfl rfl pte_May_c pte_May_p
def pte_row_ir : IR :=
  (.lt (.len (.v 0)) (.loop [(.c (.i .u64 0)), (.c (.i .i64 0))]
  (.lt (.bin .lss (.v 3) (.v 1)) (.ite (.v 4)
  (.chk (.inb (.v 0) (.v 3) 1) (.call 107 [(false, [(.idx (.v 0) (.v 3) 0)])] [(false, 1)]
  (.call 86 [(false, [(.v 2)]), (false, [(.v 3)]), (false, [(.c (.i .i64 1))]), (false, [(.v 5)])] [(false, 1)]
  (.lt (.bin .add (.v 3) (.c (.i .i64 1))) (.cont 0 [(.v 6), (.v 7)])))))
  (.ret [(false, [(.v 2)])])))))
theorem pte_row_c : compile envIrW 3000 85 = .ok pte_row_ir := by kernel_rfl
theorem pte_row_p : paramShape Tryz.prog 85 = some [(false, 1)] := by kernel_rfl
theorem pte_row_k : Known gAll 85 (.ir [(false, 1)] pte_row_ir) := known_ir (E := envIrW) (n := 3000) rfl rfl pte_row_c pte_row_p
def atlasref06_Leaf_ir : IR :=
  (.ite (.v 0)
  (.ite (.v 1)
  (.ret [(false, [(.c (.b true))])])
  (.ite (.v 0)
  (.ret [(false, [(.v 3)])])
  (.ret [(false, [(.c (.b false))])])))
  (.ite (.v 0)
  (.ret [(false, [(.v 3)])])
  (.ret [(false, [(.c (.b false))])])))
theorem atlasref06_Leaf_c : compile envIrW 3000 100 = .ok atlasref06_Leaf_ir := by kernel_rfl
theorem atlasref06_Leaf_p : paramShape Tryz.prog 100 = some [(true, 11)] := by kernel_rfl
theorem atlasref06_Leaf_k : Known gAll 100 (.ir [(true, 11)] atlasref06_Leaf_ir) := known_ir (E := envIrW) (n := 3000) rfl rfl atlasref06_Leaf_c atlasref06_Leaf_p
def perm_asks_1_ir : IR :=
  (.ret [(false, [(.v 2)])])
theorem perm_asks_1_c : compile envIrW 3000 142 = .ok perm_asks_1_ir := by kernel_rfl
theorem perm_asks_1_p : paramShape Tryz.prog 142 = some [(true, 4), (true, 4)] := by kernel_rfl
theorem perm_asks_1_k : Known gAll 142 (.ir [(true, 4), (true, 4)] perm_asks_1_ir) := known_ir (E := envIrW) (n := 3000) rfl rfl perm_asks_1_c perm_asks_1_p
def perm_asks_2_ir : IR :=
  (.ite (.v 0)
  (.ret [(false, [(.c (.b true))])])
  (.ite (.v 2)
  (.ret [(false, [(.v 7)])])
  (.ret [(false, [(.c (.b false))])])))
theorem perm_asks_2_c : compile envIrW 3000 143 = .ok perm_asks_2_ir := by kernel_rfl
theorem perm_asks_2_p : paramShape Tryz.prog 143 = some [(true, 4), (true, 4)] := by kernel_rfl
theorem perm_asks_2_k : Known gAll 143 (.ir [(true, 4), (true, 4)] perm_asks_2_ir) := known_ir (E := envIrW) (n := 3000) rfl rfl perm_asks_2_c perm_asks_2_p
def perm_asks_3_ir : IR :=
  (.ret [(false, [(.v 1)])])
theorem perm_asks_3_c : compile envIrW 3000 144 = .ok perm_asks_3_ir := by kernel_rfl
theorem perm_asks_3_p : paramShape Tryz.prog 144 = some [(true, 4), (true, 4)] := by kernel_rfl
theorem perm_asks_3_k : Known gAll 144 (.ir [(true, 4), (true, 4)] perm_asks_3_ir) := known_ir (E := envIrW) (n := 3000) rfl rfl perm_asks_3_c perm_asks_3_p
def TIrW : Tbl :=
  (23, .ir [(true, 2), (false, 1), (false, 1), (false, 1)] walk_Look_ir) ::
  (19, .ir [(true, 2), (false, 1), (false, 1), (false, 1)] atlasref10_Look_ir) ::
  (65, .ir [(true, 13), (false, 1)] walk_Physical_ir) ::
  (63, .ir [(true, 2), (false, 1), (false, 1), (true, 4)] walk_Walk_ir) ::
  (24, .ir [(true, 2), (true, 13), (false, 1)] walk_Mark_ir) ::
  (21, .ir [(true, 11)] atlasref06_Perm_ir) ::
  (40, .ir [(false, 1), (false, 1)] cause_Page_ir) ::
  (41, .ir [(false, 1), (false, 1), (false, 1)] walk_slot_ir) ::
  (43, .ir [(false, 1), (false, 1)] cause_Access_ir) ::
  (44, .ir [(false, 1)] pte_Get_ir) ::
  (45, .ir [(true, 11), (false, 1)] pte_Bad_ir) ::
  (46, .ir [(true, 11)] pte_Leaf_ir) ::
  (36, .ir [(false, 1), (false, 1), (false, 1)] atlasref09_Fault_ir) ::
  (37, .ir [(true, 2), (false, 1), (false, 1), (false, 1), (false, 1), (false, 1)] atlasref10_down_ir) ::
  (96, .ir [(true, 4), (true, 4)] perm_Allows_ir) ::
  (56, .ir [(true, 11)] pte_Perm_ir) ::
  (48, .ir [(true, 11)] pte_Put_ir) ::
  (capOff + 80, .irK [(false, 1)] [1] pte_Get_1_ir) ::
  (81, .ir [(true, 11)] pte_Link_ir) ::
  (68, .ir [(false, 1), (false, 1)] atlasref09_Number_ir) ::
  (70, .ir [(false, 1)] atlasref06_Get_ir) ::
  (72, .ir [(true, 11), (false, 1)] atlasref06_Bad_ir) ::
  (73, .ir [(true, 11)] atlasref06_Link_ir) ::
  (117, .ir [(true, 4), (true, 4)] perm_reaches_ir) ::
  (84, .ir [(true, 11)] pte_May_ir) ::
  (85, .ir [(false, 1)] pte_row_ir) ::
  (100, .ir [(true, 11)] atlasref06_Leaf_ir) ::
  (142, .ir [(true, 4), (true, 4)] perm_asks_1_ir) ::
  (143, .ir [(true, 4), (true, 4)] perm_asks_2_ir) ::
  (144, .ir [(true, 4), (true, 4)] perm_asks_3_ir) ::
  []
theorem TIrW_ok : ∀ x ∈ TIrW, Known gAll x.1 x.2 :=
  kcons walk_Look_k <|
  kcons atlasref10_Look_k <|
  kcons walk_Physical_k <|
  kcons walk_Walk_k <|
  kcons walk_Mark_k <|
  kcons atlasref06_Perm_k <|
  kcons cause_Page_k <|
  kcons walk_slot_k <|
  kcons cause_Access_k <|
  kcons pte_Get_k <|
  kcons pte_Bad_k <|
  kcons pte_Leaf_k <|
  kcons atlasref09_Fault_k <|
  kcons atlasref10_down_k <|
  kcons perm_Allows_k <|
  kcons pte_Perm_k <|
  kcons pte_Put_k <|
  kcons pte_Get_1_k <|
  kcons pte_Link_k <|
  kcons atlasref09_Number_k <|
  kcons atlasref06_Get_k <|
  kcons atlasref06_Bad_k <|
  kcons atlasref06_Link_k <|
  kcons perm_reaches_k <|
  kcons pte_May_k <|
  kcons pte_row_k <|
  kcons atlasref06_Leaf_k <|
  kcons perm_asks_1_k <|
  kcons perm_asks_2_k <|
  kcons perm_asks_3_k <|
  fun _ h => nomatch h
end Go.Proofs.YtobdkhjaipoliaaGreatDoor.Sx
