/-
  IRs of functions, printed by a program of mine (wip/tools/mkir.py, ev.run.lean); each is checked by the kernel against the executor.
-/
import Derived.Test.YtngpjdieelcbmaaDoorBf
import Derived.Test.YtngpjdieelcbmaaDoorProg
namespace Go.Proofs.YtngpjdieelcbmaaDoor.Sx
open Go
set_option maxRecDepth 100000
def inlenvIrW : List FuncId :=
  47 ::
  74 ::
  []
noncomputable def envIrW : Env := { P := Tryd.prog, G := gAll, inl := inlenvIrW, unr := [], ded := true }
/-- atlas/walk.Look -/
def walk_Look_ir : IR :=
  (.call 25 [(false, [(.v 3)])] [(false, 1)]
  (.lt (.un .not (.v 5)) (.ite (.v 6)
  (.call 26 [(false, [(.v 4)]), (false, [(.v 3)])] [(true, 3)]
  (.ret [(true, [(.c (.i .i64 0)), (.c (.i .u64 0)), (.c (.b false)), (.c (.b false)), (.c (.b false)), (.c (.b false)), (.c (.b false)), (.c (.b false)), (.c (.b false)), (.c (.b false)), (.c (.i .u64 0)), (.c (.i .u64 0)), (.c (.i .u64 0))]), (true, [(.v 7), (.v 8), (.v 9)])]))
  (.loop [(.c (.b false)), (.c (.i .i64 2)), (.v 2)]
  (.call 27 [(false, [(.v 9)]), (false, [(.v 3)]), (false, [(.v 8)])] [(false, 1)]
  (.call 28 [(true, [(.v 0), (.v 1)]), (false, [(.v 10)]), (false, [(.c (.i .i64 8))])] [(false, 1), (false, 1)]
  (.lt (.bin .neq (.v 12) (.c (.i .i64 0))) (.ite (.v 13)
  (.call 29 [(false, [(.v 4)]), (false, [(.v 3)])] [(true, 3)]
  (.ret [(true, [(.c (.i .i64 0)), (.c (.i .u64 0)), (.c (.b false)), (.c (.b false)), (.c (.b false)), (.c (.b false)), (.c (.b false)), (.c (.b false)), (.c (.b false)), (.c (.b false)), (.c (.i .u64 0)), (.c (.i .u64 0)), (.c (.i .u64 0))]), (true, [(.v 14), (.v 15), (.v 16)])]))
  (.call 30 [(false, [(.v 11)])] [(true, 11)]
  (.ite (.v 7)
  (.call 31 [(true, (vr 14 11)), (false, [(.v 8)])] [(false, 1)]
  (.ite (.v 25)
  (.call 26 [(false, [(.v 4)]), (false, [(.v 3)])] [(true, 3)]
  (.ret [(true, [(.c (.i .i64 0)), (.c (.i .u64 0)), (.c (.b false)), (.c (.b false)), (.c (.b false)), (.c (.b false)), (.c (.b false)), (.c (.b false)), (.c (.b false)), (.c (.b false)), (.c (.i .u64 0)), (.c (.i .u64 0)), (.c (.i .u64 0))]), (true, [(.v 26), (.v 27), (.v 28)])]))
  (.call 32 [(true, (vr 14 11))] [(false, 1)]
  (.ite (.v 26)
  (.ret [(true, ([(.v 8), (.v 10)] ++ vr 14 5 ++ [(.c (.b true))] ++ vr 20 5)), (true, [(.c (.b false)), (.c (.i .i64 0)), (.c (.i .u64 0))])])
  (.lt (.bin .sub (.v 8) (.c (.i .i64 1))) (.cont 0 [(.c (.b true)), (.v 27), (.v 23)]))))))
  (.call 31 [(true, (vr 14 11)), (false, [(.v 8)])] [(false, 1)]
  (.ite (.v 25)
  (.call 26 [(false, [(.v 4)]), (false, [(.v 3)])] [(true, 3)]
  (.ret [(true, [(.c (.i .i64 0)), (.c (.i .u64 0)), (.c (.b false)), (.c (.b false)), (.c (.b false)), (.c (.b false)), (.c (.b false)), (.c (.b false)), (.c (.b false)), (.c (.b false)), (.c (.i .u64 0)), (.c (.i .u64 0)), (.c (.i .u64 0))]), (true, [(.v 26), (.v 27), (.v 28)])]))
  (.call 32 [(true, (vr 14 11))] [(false, 1)]
  (.ite (.v 26)
  (.ret [(true, ([(.v 8), (.v 10)] ++ vr 14 11)), (true, [(.c (.b false)), (.c (.i .i64 0)), (.c (.i .u64 0))])])
  (.lt (.bin .sub (.v 8) (.c (.i .i64 1))) (.cont 0 [(.v 19), (.v 27), (.v 23)]))))))))))))))))
theorem walk_Look_c : compile envIrW 3000 17 = .ok walk_Look_ir := by kernel_rfl
theorem walk_Look_p : paramShape Tryd.prog 17 = some [(true, 2), (false, 1), (false, 1), (false, 1)] := by kernel_rfl
theorem walk_Look_k : Known gAll 17 (.ir [(true, 2), (false, 1), (false, 1), (false, 1)] walk_Look_ir) := known_ir (E := envIrW) (n := 3000) rfl rfl walk_Look_c walk_Look_p
/-- atlas/walk.Mark -/
def walk_Mark_ir : IR :=
  (.call 33 [(true, [(.v 0), (.v 1)]), (false, [(.v 3)])] [(false, 1)]
  (.call 30 [(false, [(.v 16)])] [(true, 11)]
  (.ite (.v 24)
  (.call 34 [(true, (vr 17 6 ++ [(.c (.b true)), (.c (.b true)), (.v 25), (.v 26), (.v 27)]))] [(false, 1), (false, 1)]
  (.call 35 [(true, [(.v 0), (.v 1)]), (false, [(.v 3)]), (false, [(.c (.i .i64 8))]), (false, [(.v 28)])] [(true, 2), (false, 1)]
  (.ret [(true, [(.v 30), (.v 31)]), (true, (vr 2 8 ++ [(.c (.b true)), (.c (.b true)), (.v 12), (.v 13), (.v 14)]))])))
  (.call 34 [(true, (vr 17 6 ++ [(.c (.b true)), (.v 15), (.v 25), (.v 26), (.v 27)]))] [(false, 1), (false, 1)]
  (.call 35 [(true, [(.v 0), (.v 1)]), (false, [(.v 3)]), (false, [(.c (.i .i64 8))]), (false, [(.v 28)])] [(true, 2), (false, 1)]
  (.ret [(true, [(.v 30), (.v 31)]), (true, (vr 2 8 ++ [(.c (.b true)), (.v 15), (.v 12), (.v 13), (.v 14)]))]))))))
theorem walk_Mark_c : compile envIrW 3000 18 = .ok walk_Mark_ir := by kernel_rfl
theorem walk_Mark_p : paramShape Tryd.prog 18 = some [(true, 2), (true, 13), (false, 1)] := by kernel_rfl
theorem walk_Mark_k : Known gAll 18 (.ir [(true, 2), (true, 13), (false, 1)] walk_Mark_ir) := known_ir (E := envIrW) (n := 3000) rfl rfl walk_Mark_c walk_Mark_p
/-- atlas/cause.Page -/
def cause_Page_ir : IR :=
  (.chk (.rng (.v 0) 3) (.ret [(true, [(.c (.b true)), (selE (.v 0) 0 [(.c (.i .i64 12)), (.c (.i .i64 13)), (.c (.i .i64 15))]), (.v 1)])]))
theorem cause_Page_c : compile envIrW 3000 26 = .ok cause_Page_ir := by kernel_rfl
theorem cause_Page_p : paramShape Tryd.prog 26 = some [(false, 1), (false, 1)] := by kernel_rfl
theorem cause_Page_k : Known gAll 26 (.ir [(false, 1), (false, 1)] cause_Page_ir) := known_ir (E := envIrW) (n := 3000) rfl rfl cause_Page_c cause_Page_p
/-- atlas/walk.slot -/
def walk_slot_ir : IR :=
  (.lt (.bin .mul (.v 0) (.c (.i .u64 4096))) (.call 48 [(false, [(.v 1)]), (false, [(.v 2)])] [(false, 1)]
  (.lt (.cv .u64 (.v 4)) (.lt (.bin .mul (.v 5) (.c (.i .u64 8))) (.lt (.bin .add (.v 3) (.v 6)) (.ret [(false, [(.v 7)])]))))))
theorem walk_slot_c : compile envIrW 3000 27 = .ok walk_slot_ir := by kernel_rfl
theorem walk_slot_p : paramShape Tryd.prog 27 = some [(false, 1), (false, 1), (false, 1)] := by kernel_rfl
theorem walk_slot_k : Known gAll 27 (.ir [(false, 1), (false, 1), (false, 1)] walk_slot_ir) := known_ir (E := envIrW) (n := 3000) rfl rfl walk_slot_c walk_slot_p
/-- atlas/cause.Access -/
def cause_Access_ir : IR :=
  (.chk (.rng (.v 0) 3) (.ret [(true, [(.c (.b true)), (selE (.v 0) 0 [(.c (.i .i64 1)), (.c (.i .i64 5)), (.c (.i .i64 7))]), (.v 1)])]))
theorem cause_Access_c : compile envIrW 3000 29 = .ok cause_Access_ir := by kernel_rfl
theorem cause_Access_p : paramShape Tryd.prog 29 = some [(false, 1), (false, 1)] := by kernel_rfl
theorem cause_Access_k : Known gAll 29 (.ir [(false, 1), (false, 1)] cause_Access_ir) := known_ir (E := envIrW) (n := 3000) rfl rfl cause_Access_c cause_Access_p
/-- atlas/pte.Get -/
def pte_Get_ir : IR :=
  (.call (capOff + 51) [(false, [(.c (.i .i64 1))]), (false, [(.c (.i .i64 0))]), (true, [(.v 0)])] [(false, 1)]
  (.call (capOff + 51) [(false, [(.c (.i .i64 1))]), (false, [(.c (.i .i64 1))]), (true, [(.v 0)])] [(false, 1)]
  (.call (capOff + 51) [(false, [(.c (.i .i64 1))]), (false, [(.c (.i .i64 2))]), (true, [(.v 0)])] [(false, 1)]
  (.call (capOff + 51) [(false, [(.c (.i .i64 1))]), (false, [(.c (.i .i64 3))]), (true, [(.v 0)])] [(false, 1)]
  (.call (capOff + 51) [(false, [(.c (.i .i64 1))]), (false, [(.c (.i .i64 4))]), (true, [(.v 0)])] [(false, 1)]
  (.call (capOff + 51) [(false, [(.c (.i .i64 1))]), (false, [(.c (.i .i64 5))]), (true, [(.v 0)])] [(false, 1)]
  (.call (capOff + 51) [(false, [(.c (.i .i64 1))]), (false, [(.c (.i .i64 6))]), (true, [(.v 0)])] [(false, 1)]
  (.call (capOff + 51) [(false, [(.c (.i .i64 1))]), (false, [(.c (.i .i64 7))]), (true, [(.v 0)])] [(false, 1)]
  (.call 50 [(false, [(.v 0)]), (false, [(.c (.i .i64 8))]), (false, [(.c (.i .i64 2))])] [(false, 1)]
  (.call 50 [(false, [(.v 0)]), (false, [(.c (.i .i64 10))]), (false, [(.c (.i .i64 44))])] [(false, 1)]
  (.call 50 [(false, [(.v 0)]), (false, [(.c (.i .i64 54))]), (false, [(.c (.i .i64 10))])] [(false, 1)]
  (.ret [(true, (vr 1 11))]))))))))))))
theorem pte_Get_c : compile envIrW 3000 30 = .ok pte_Get_ir := by kernel_rfl
theorem pte_Get_p : paramShape Tryd.prog 30 = some [(false, 1)] := by kernel_rfl
theorem pte_Get_k : Known gAll 30 (.ir [(false, 1)] pte_Get_ir) := known_ir (E := envIrW) (n := 3000) rfl rfl pte_Get_c pte_Get_p
/-- atlas/pte.Bad -/
def pte_Bad_ir : IR :=
  (.lt (.un .not (.v 0)) (.ite (.v 12)
  (.ret [(false, [(.c (.b true))])])
  (.ite (.v 2)
  (.lt (.un .not (.v 1)) (.ite (.v 13)
  (.ret [(false, [(.c (.b true))])])
  (.lt (.bin .neq (.v 10) (.c (.i .u64 0))) (.ite (.v 14)
  (.ret [(false, [(.c (.b true))])])
  (.call 52 [(true, (vr 0 11))] [(false, 1)]
  (.ite (.v 15)
  (.lt (.bin .eql (.v 11) (.c (.i .i64 0))) (.ite (.v 16)
  (.ret [(false, [(.c (.b true))])])
  (.ite (.v 6)
  (.ret [(false, [(.c (.b true))])])
  (.ite (.v 7)
  (.ret [(false, [(.c (.b true))])])
  (.ret [(false, [(.v 4)])])))))
  (.call 54 [(false, [(.v 11)])] [(false, 1)]
  (.lt (.bin .quo (.v 16) (.c (.i .u64 4096))) (.call 53 [(false, [(.v 9)]), (false, [(.v 17)])] [(false, 1)]
  (.lt (.un .not (.v 18)) (.ret [(false, [(.v 19)])])))))))))))
  (.lt (.bin .neq (.v 10) (.c (.i .u64 0))) (.ite (.v 13)
  (.ret [(false, [(.c (.b true))])])
  (.call 52 [(true, (vr 0 11))] [(false, 1)]
  (.ite (.v 14)
  (.lt (.bin .eql (.v 11) (.c (.i .i64 0))) (.ite (.v 15)
  (.ret [(false, [(.c (.b true))])])
  (.ite (.v 6)
  (.ret [(false, [(.c (.b true))])])
  (.ite (.v 7)
  (.ret [(false, [(.c (.b true))])])
  (.ret [(false, [(.v 4)])])))))
  (.call 54 [(false, [(.v 11)])] [(false, 1)]
  (.lt (.bin .quo (.v 15) (.c (.i .u64 4096))) (.call 53 [(false, [(.v 9)]), (false, [(.v 16)])] [(false, 1)]
  (.lt (.un .not (.v 17)) (.ret [(false, [(.v 18)])]))))))))))))
theorem pte_Bad_c : compile envIrW 3000 31 = .ok pte_Bad_ir := by kernel_rfl
theorem pte_Bad_p : paramShape Tryd.prog 31 = some [(true, 11), (false, 1)] := by kernel_rfl
theorem pte_Bad_k : Known gAll 31 (.ir [(true, 11), (false, 1)] pte_Bad_ir) := known_ir (E := envIrW) (n := 3000) rfl rfl pte_Bad_c pte_Bad_p
/-- atlas/pte.Leaf -/
def pte_Leaf_ir : IR :=
  (.ite (.v 0)
  (.ite (.v 1)
  (.ret [(false, [(.c (.b true))])])
  (.ret [(false, [(.v 3)])]))
  (.ret [(false, [(.c (.b false))])]))
theorem pte_Leaf_c : compile envIrW 3000 32 = .ok pte_Leaf_ir := by kernel_rfl
theorem pte_Leaf_p : paramShape Tryd.prog 32 = some [(true, 11)] := by kernel_rfl
theorem pte_Leaf_k : Known gAll 32 (.ir [(true, 11)] pte_Leaf_ir) := known_ir (E := envIrW) (n := 3000) rfl rfl pte_Leaf_c pte_Leaf_p
/-- atlas/pte.Perm -/
def pte_Perm_ir : IR :=
  (.ret [(true, (vr 1 4))])
theorem pte_Perm_c : compile envIrW 3000 42 = .ok pte_Perm_ir := by kernel_rfl
theorem pte_Perm_p : paramShape Tryd.prog 42 = some [(true, 11)] := by kernel_rfl
theorem pte_Perm_k : Known gAll 42 (.ir [(true, 11)] pte_Perm_ir) := known_ir (E := envIrW) (n := 3000) rfl rfl pte_Perm_c pte_Perm_p
/-- atlas/pte.Put -/
def pte_Put_ir : IR :=
  (.call 56 [(true, (vr 0 11))] [(false, 1)]
  (.lt (.un .not (.v 11)) (.ite (.v 12)
  (.ret [(false, [(.c (.i .u64 0))]), (false, [(.c (.i .i64 1))])])
  (.call 57 [(false, [(.cat (.one [(.v 0)]) (.cat (.one [(.v 1)]) (.cat (.one [(.v 2)]) (.cat (.one [(.v 3)]) (.cat (.one [(.v 4)]) (.cat (.one [(.v 5)]) (.cat (.one [(.v 6)]) (.one [(.v 7)]))))))))])] [(false, 1)]
  (.chk (.eqt false (.v 13) (.v 13)) (.call 58 [(false, [(.v 13)]), (false, [(.c (.i .i64 8))]), (false, [(.c (.i .i64 2))]), (false, [(.v 8)])] [(false, 1)]
  (.call 58 [(false, [(.v 14)]), (false, [(.c (.i .i64 10))]), (false, [(.c (.i .i64 44))]), (false, [(.v 9)])] [(false, 1)]
  (.call 58 [(false, [(.v 15)]), (false, [(.c (.i .i64 54))]), (false, [(.c (.i .i64 10))]), (false, [(.v 10)])] [(false, 1)]
  (.ret [(false, [(.v 16)]), (false, [(.c (.i .i64 0))])])))))))))
theorem pte_Put_c : compile envIrW 3000 34 = .ok pte_Put_ir := by kernel_rfl
theorem pte_Put_p : paramShape Tryd.prog 34 = some [(true, 11)] := by kernel_rfl
theorem pte_Put_k : Known gAll 34 (.ir [(true, 11)] pte_Put_ir) := known_ir (E := envIrW) (n := 3000) rfl rfl pte_Put_c pte_Put_p
/-- atlas/pte.Get$1 -/
def pte_Get_1_ir : IR :=
  (.call 50 [(false, [(.v 1)]), (false, [(.v 0)]), (false, [(.c (.i .i64 1))])] [(false, 1)]
  (.lt (.bin .eql (.v 2) (.c (.i .u64 1))) (.ret [(false, [(.v 3)])])))
theorem pte_Get_1_c : compileK envIrW 3000 51 [1] = .ok pte_Get_1_ir := by kernel_rfl
theorem pte_Get_1_p : paramShape Tryd.prog 51 = some [(false, 1)] := by kernel_rfl
theorem pte_Get_1_k : Known gAll (capOff + 51) (.irK [(false, 1)] [1] pte_Get_1_ir) := known_irK (E := envIrW) (n := 3000) rfl rfl pte_Get_1_c pte_Get_1_p
/-- atlas/pte.Link -/
def pte_Link_ir : IR :=
  (.ite (.v 0)
  (.lt (.un .not (.v 1)) (.ite (.v 11)
  (.lt (.un .not (.v 3)) (.ret [(false, [(.v 12)])]))
  (.ret [(false, [(.c (.b false))])])))
  (.ret [(false, [(.c (.b false))])]))
theorem pte_Link_c : compile envIrW 3000 52 = .ok pte_Link_ir := by kernel_rfl
theorem pte_Link_p : paramShape Tryd.prog 52 = some [(true, 11)] := by kernel_rfl
theorem pte_Link_k : Known gAll 52 (.ir [(true, 11)] pte_Link_ir) := known_ir (E := envIrW) (n := 3000) rfl rfl pte_Link_c pte_Link_p
/-- atlas/pte.May -/
def pte_May_ir : IR :=
  (.call 50 [(false, [(.v 8)]), (false, [(.c (.i .i64 0))]), (false, [(.c (.i .i64 2))])] [(false, 1)]
  (.lt (.bin .eql (.v 11) (.v 8)) (.ite (.v 12)
  (.call 50 [(false, [(.v 9)]), (false, [(.c (.i .i64 0))]), (false, [(.c (.i .i64 44))])] [(false, 1)]
  (.lt (.bin .eql (.v 13) (.v 9)) (.ite (.v 14)
  (.call 50 [(false, [(.v 10)]), (false, [(.c (.i .i64 0))]), (false, [(.c (.i .i64 10))])] [(false, 1)]
  (.lt (.bin .eql (.v 15) (.v 10)) (.ret [(false, [(.v 16)])])))
  (.ret [(false, [(.c (.b false))])]))))
  (.ret [(false, [(.c (.b false))])]))))
theorem pte_May_c : compile envIrW 3000 56 = .ok pte_May_ir := by kernel_rfl
theorem pte_May_p : paramShape Tryd.prog 56 = some [(true, 11)] := by kernel_rfl
theorem pte_May_k : Known gAll 56 (.ir [(true, 11)] pte_May_ir) := known_ir (E := envIrW) (n := 3000) rfl rfl pte_May_c pte_May_p
/-- atlas/pte.row -/
def pte_row_ir : IR :=
  (.lt (.len (.v 0)) (.loop [(.c (.i .u64 0)), (.c (.i .i64 0))]
  (.lt (.bin .lss (.v 3) (.v 1)) (.ite (.v 4)
  (.chk (.inb (.v 0) (.v 3) 1) (.call 75 [(false, [(.idx (.v 0) (.v 3) 0)])] [(false, 1)]
  (.call 58 [(false, [(.v 2)]), (false, [(.v 3)]), (false, [(.c (.i .i64 1))]), (false, [(.v 5)])] [(false, 1)]
  (.lt (.bin .add (.v 3) (.c (.i .i64 1))) (.cont 0 [(.v 6), (.v 7)])))))
  (.ret [(false, [(.v 2)])])))))
theorem pte_row_c : compile envIrW 3000 57 = .ok pte_row_ir := by kernel_rfl
theorem pte_row_p : paramShape Tryd.prog 57 = some [(false, 1)] := by kernel_rfl
theorem pte_row_k : Known gAll 57 (.ir [(false, 1)] pte_row_ir) := known_ir (E := envIrW) (n := 3000) rfl rfl pte_row_c pte_row_p
def TIrW : Tbl :=
  (17, .ir [(true, 2), (false, 1), (false, 1), (false, 1)] walk_Look_ir) ::
  (18, .ir [(true, 2), (true, 13), (false, 1)] walk_Mark_ir) ::
  (26, .ir [(false, 1), (false, 1)] cause_Page_ir) ::
  (27, .ir [(false, 1), (false, 1), (false, 1)] walk_slot_ir) ::
  (29, .ir [(false, 1), (false, 1)] cause_Access_ir) ::
  (30, .ir [(false, 1)] pte_Get_ir) ::
  (31, .ir [(true, 11), (false, 1)] pte_Bad_ir) ::
  (32, .ir [(true, 11)] pte_Leaf_ir) ::
  (42, .ir [(true, 11)] pte_Perm_ir) ::
  (34, .ir [(true, 11)] pte_Put_ir) ::
  (capOff + 51, .irK [(false, 1)] [1] pte_Get_1_ir) ::
  (52, .ir [(true, 11)] pte_Link_ir) ::
  (56, .ir [(true, 11)] pte_May_ir) ::
  (57, .ir [(false, 1)] pte_row_ir) ::
  []
theorem TIrW_ok : ∀ x ∈ TIrW, Known gAll x.1 x.2 :=
  kcons walk_Look_k <|
  kcons walk_Mark_k <|
  kcons cause_Page_k <|
  kcons walk_slot_k <|
  kcons cause_Access_k <|
  kcons pte_Get_k <|
  kcons pte_Bad_k <|
  kcons pte_Leaf_k <|
  kcons pte_Perm_k <|
  kcons pte_Put_k <|
  kcons pte_Get_1_k <|
  kcons pte_Link_k <|
  kcons pte_May_k <|
  kcons pte_row_k <|
  fun _ h => nomatch h
end Go.Proofs.YtngpjdieelcbmaaDoor.Sx
