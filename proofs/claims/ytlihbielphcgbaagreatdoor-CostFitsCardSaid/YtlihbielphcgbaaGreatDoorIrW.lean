/-
  IRs of functions, printed by a program of mine (wip/tools/mkir.py, ev.run.lean); each is checked by the kernel against the executor.
-/
import Derived.Test.YtlihbielphcgbaaGreatDoorBf
import Derived.Test.YtlihbielphcgbaaGreatDoorProg
namespace Go.Proofs.YtlihbielphcgbaaGreatDoor.Sx
open Go
set_option maxRecDepth 100000
def inlenvIrW : List FuncId :=
  109 ::
  []
noncomputable def envIrW : Env := { P := Tryz.prog, G := gAll, inl := inlenvIrW, unr := [], ded := true }
/-- atlas/atlasref08.Allows -/
def atlasref08_Allows_ir : IR :=
  (.lt (.bin .eql (.v 5) (.c (.i .i64 0))) (.ite (.v 8)
  (.lt (.un .not (.v 3)) (.ite (.v 9)
  (.ret [(false, [(.c (.b false))])])
  (.lt (.bin .eql (.v 5) (.c (.i .i64 1))) (.ite (.v 10)
  (.ite (.v 3)
  (.lt (.bin .eql (.v 4) (.c (.i .i64 0))) (.ite (.v 11)
  (.ret [(false, [(.c (.b false))])])
  (.lt (.un .not (.v 6)) (.ite (.v 12)
  (.ret [(false, [(.c (.b false))])])
  (.lt (.bin .eql (.v 4) (.c (.i .i64 0))) (.ite (.v 13)
  (.ret [(false, [(.v 2)])])
  (.lt (.bin .eql (.v 4) (.c (.i .i64 1))) (.ite (.v 14)
  (.ite (.v 0)
  (.ret [(false, [(.c (.b true))])])
  (.ite (.v 2)
  (.ret [(false, [(.v 7)])])
  (.ret [(false, [(.c (.b false))])])))
  (.ret [(false, [(.v 1)])])))))))))
  (.lt (.bin .eql (.v 4) (.c (.i .i64 0))) (.ite (.v 11)
  (.ret [(false, [(.v 2)])])
  (.lt (.bin .eql (.v 4) (.c (.i .i64 1))) (.ite (.v 12)
  (.ite (.v 0)
  (.ret [(false, [(.c (.b true))])])
  (.ite (.v 2)
  (.ret [(false, [(.v 7)])])
  (.ret [(false, [(.c (.b false))])])))
  (.ret [(false, [(.v 1)])]))))))
  (.lt (.bin .eql (.v 4) (.c (.i .i64 0))) (.ite (.v 11)
  (.ret [(false, [(.v 2)])])
  (.lt (.bin .eql (.v 4) (.c (.i .i64 1))) (.ite (.v 12)
  (.ite (.v 0)
  (.ret [(false, [(.c (.b true))])])
  (.ite (.v 2)
  (.ret [(false, [(.v 7)])])
  (.ret [(false, [(.c (.b false))])])))
  (.ret [(false, [(.v 1)])])))))))))
  (.lt (.bin .eql (.v 5) (.c (.i .i64 1))) (.ite (.v 9)
  (.ite (.v 3)
  (.lt (.bin .eql (.v 4) (.c (.i .i64 0))) (.ite (.v 10)
  (.ret [(false, [(.c (.b false))])])
  (.lt (.un .not (.v 6)) (.ite (.v 11)
  (.ret [(false, [(.c (.b false))])])
  (.lt (.bin .eql (.v 4) (.c (.i .i64 0))) (.ite (.v 12)
  (.ret [(false, [(.v 2)])])
  (.lt (.bin .eql (.v 4) (.c (.i .i64 1))) (.ite (.v 13)
  (.ite (.v 0)
  (.ret [(false, [(.c (.b true))])])
  (.ite (.v 2)
  (.ret [(false, [(.v 7)])])
  (.ret [(false, [(.c (.b false))])])))
  (.ret [(false, [(.v 1)])])))))))))
  (.lt (.bin .eql (.v 4) (.c (.i .i64 0))) (.ite (.v 10)
  (.ret [(false, [(.v 2)])])
  (.lt (.bin .eql (.v 4) (.c (.i .i64 1))) (.ite (.v 11)
  (.ite (.v 0)
  (.ret [(false, [(.c (.b true))])])
  (.ite (.v 2)
  (.ret [(false, [(.v 7)])])
  (.ret [(false, [(.c (.b false))])])))
  (.ret [(false, [(.v 1)])]))))))
  (.lt (.bin .eql (.v 4) (.c (.i .i64 0))) (.ite (.v 10)
  (.ret [(false, [(.v 2)])])
  (.lt (.bin .eql (.v 4) (.c (.i .i64 1))) (.ite (.v 11)
  (.ite (.v 0)
  (.ret [(false, [(.c (.b true))])])
  (.ite (.v 2)
  (.ret [(false, [(.v 7)])])
  (.ret [(false, [(.c (.b false))])])))
  (.ret [(false, [(.v 1)])])))))))))
theorem atlasref08_Allows_c : compile envIrW 3000 51 = .ok atlasref08_Allows_ir := by kernel_rfl
theorem atlasref08_Allows_p : paramShape Tryz.prog 51 = some [(true, 4), (true, 4)] := by kernel_rfl
theorem atlasref08_Allows_k : Known gAll 51 (.ir [(true, 4), (true, 4)] atlasref08_Allows_ir) := known_ir (E := envIrW) (n := 3000) rfl rfl atlasref08_Allows_c atlasref08_Allows_p
/-- atlas/cause.Page -/
def cause_Page_ir : IR :=
  (.chk (.rng (.v 0) 3) (.ret [(true, [(.c (.b true)), (selE (.v 0) 0 [(.c (.i .i64 12)), (.c (.i .i64 13)), (.c (.i .i64 15))]), (.v 1)])]))
theorem cause_Page_c : compile envIrW 3000 81 = .ok cause_Page_ir := by kernel_rfl
theorem cause_Page_p : paramShape Tryz.prog 81 = some [(false, 1), (false, 1)] := by kernel_rfl
theorem cause_Page_k : Known gAll 81 (.ir [(false, 1), (false, 1)] cause_Page_ir) := known_ir (E := envIrW) (n := 3000) rfl rfl cause_Page_c cause_Page_p
/-- atlas/atlasref09.Fault -/
def atlasref09_Fault_ir : IR :=
  (.call 88 [(false, [(.v 0)]), (false, [(.v 1)])] [(false, 1)]
  (.ret [(true, [(.c (.b true)), (.v 3), (.v 2)])]))
theorem atlasref09_Fault_c : compile envIrW 3000 49 = .ok atlasref09_Fault_ir := by kernel_rfl
theorem atlasref09_Fault_p : paramShape Tryz.prog 49 = some [(false, 1), (false, 1), (false, 1)] := by kernel_rfl
theorem atlasref09_Fault_k : Known gAll 49 (.ir [(false, 1), (false, 1), (false, 1)] atlasref09_Fault_ir) := known_ir (E := envIrW) (n := 3000) rfl rfl atlasref09_Fault_c atlasref09_Fault_p
/-- atlas/perm.Allows -/
def perm_Allows_ir : IR :=
  (.call 111 [(true, (vr 0 4)), (true, (vr 4 4))] [(false, 1)]
  (.ite (.v 8)
  (.chk (.rng (.v 4) 3) (.ite (.isk (.v 4) 0)
  (.call 175 [(true, (vr 0 4)), (true, (vr 4 4))] [(false, 1)]
  (.ret [(false, [(.v 9)])]))
  (.ite (.isk (.v 4) 1)
  (.call 176 [(true, (vr 0 4)), (true, (vr 4 4))] [(false, 1)]
  (.ret [(false, [(.v 9)])]))
  (.call 177 [(true, (vr 0 4)), (true, (vr 4 4))] [(false, 1)]
  (.ret [(false, [(.v 9)])])))))
  (.ret [(false, [(.c (.b false))])])))
theorem perm_Allows_c : compile envIrW 3000 80 = .ok perm_Allows_ir := by kernel_rfl
theorem perm_Allows_p : paramShape Tryz.prog 80 = some [(true, 4), (true, 4)] := by kernel_rfl
theorem perm_Allows_k : Known gAll 80 (.ir [(true, 4), (true, 4)] perm_Allows_ir) := known_ir (E := envIrW) (n := 3000) rfl rfl perm_Allows_c perm_Allows_p
/-- atlas/atlasref09.Number -/
def atlasref09_Number_ir : IR :=
  (.lt (.bin .eql (.v 0) (.c (.i .i64 3))) (.ite (.v 2)
  (.chk (.inb (.cat (.one [(.c (.i .i64 12))]) (.cat (.one [(.c (.i .i64 13))]) (.one [(.c (.i .i64 15))]))) (.v 1) 1) (.chk (.inb (.cat (.one [(.c (.i .i64 12))]) (.cat (.one [(.c (.i .i64 13))]) (.one [(.c (.i .i64 15))]))) (.v 1) 1) (.ret [(false, [(.idx (.cat (.one [(.c (.i .i64 12))]) (.cat (.one [(.c (.i .i64 13))]) (.one [(.c (.i .i64 15))]))) (.v 1) 0)])])))
  (.chk (.inb (.cat (.one [(.c (.i .i64 0))]) (.cat (.one [(.c (.i .i64 4))]) (.one [(.c (.i .i64 6))]))) (.v 1) 1) (.chk (.inb (.cat (.one [(.c (.i .i64 0))]) (.cat (.one [(.c (.i .i64 4))]) (.one [(.c (.i .i64 6))]))) (.v 1) 1) (.lt (.bin .add (.idx (.cat (.one [(.c (.i .i64 0))]) (.cat (.one [(.c (.i .i64 4))]) (.one [(.c (.i .i64 6))]))) (.v 1) 0) (.v 0)) (.lt (.bin .sub (.v 3) (.c (.i .i64 1))) (.ret [(false, [(.v 4)])])))))))
theorem atlasref09_Number_c : compile envIrW 3000 88 = .ok atlasref09_Number_ir := by kernel_rfl
theorem atlasref09_Number_p : paramShape Tryz.prog 88 = some [(false, 1), (false, 1)] := by kernel_rfl
theorem atlasref09_Number_k : Known gAll 88 (.ir [(false, 1), (false, 1)] atlasref09_Number_ir) := known_ir (E := envIrW) (n := 3000) rfl rfl atlasref09_Number_c atlasref09_Number_p
/-- atlas/perm.reaches -/
def perm_reaches_ir : IR :=
  (.lt (.bin .eql (.v 5) (.c (.i .i64 0))) (.ite (.v 8)
  (.lt (.bin .eql (.v 5) (.c (.i .i64 0))) (.lt (.eqt true (.v 9) (.v 3)) (.ret [(false, [(.v 10)])])))
  (.lt (.un .not (.v 3)) (.ite (.v 9)
  (.lt (.bin .eql (.v 5) (.c (.i .i64 0))) (.lt (.eqt true (.v 10) (.v 3)) (.ret [(false, [(.v 11)])])))
  (.lt (.bin .neq (.v 4) (.c (.i .i64 0))) (.ite (.v 10)
  (.ret [(false, [(.v 6)])])
  (.ret [(false, [(.c (.b false))])])))))))
theorem perm_reaches_c : compile envIrW 3000 111 = .ok perm_reaches_ir := by kernel_rfl
theorem perm_reaches_p : paramShape Tryz.prog 111 = some [(true, 4), (true, 4)] := by kernel_rfl
theorem perm_reaches_k : Known gAll 111 (.ir [(true, 4), (true, 4)] perm_reaches_ir) := known_ir (E := envIrW) (n := 3000) rfl rfl perm_reaches_c perm_reaches_p
/-- atlas/perm.asks$1 -/
def perm_asks_1_ir : IR :=
  (.ret [(false, [(.v 2)])])
theorem perm_asks_1_c : compile envIrW 3000 175 = .ok perm_asks_1_ir := by kernel_rfl
theorem perm_asks_1_p : paramShape Tryz.prog 175 = some [(true, 4), (true, 4)] := by kernel_rfl
theorem perm_asks_1_k : Known gAll 175 (.ir [(true, 4), (true, 4)] perm_asks_1_ir) := known_ir (E := envIrW) (n := 3000) rfl rfl perm_asks_1_c perm_asks_1_p
/-- atlas/perm.asks$2 -/
def perm_asks_2_ir : IR :=
  (.ite (.v 0)
  (.ret [(false, [(.c (.b true))])])
  (.ite (.v 2)
  (.ret [(false, [(.v 7)])])
  (.ret [(false, [(.c (.b false))])])))
theorem perm_asks_2_c : compile envIrW 3000 176 = .ok perm_asks_2_ir := by kernel_rfl
theorem perm_asks_2_p : paramShape Tryz.prog 176 = some [(true, 4), (true, 4)] := by kernel_rfl
theorem perm_asks_2_k : Known gAll 176 (.ir [(true, 4), (true, 4)] perm_asks_2_ir) := known_ir (E := envIrW) (n := 3000) rfl rfl perm_asks_2_c perm_asks_2_p
/-- atlas/perm.asks$3 -/
def perm_asks_3_ir : IR :=
  (.ret [(false, [(.v 1)])])
theorem perm_asks_3_c : compile envIrW 3000 177 = .ok perm_asks_3_ir := by kernel_rfl
theorem perm_asks_3_p : paramShape Tryz.prog 177 = some [(true, 4), (true, 4)] := by kernel_rfl
theorem perm_asks_3_k : Known gAll 177 (.ir [(true, 4), (true, 4)] perm_asks_3_ir) := known_ir (E := envIrW) (n := 3000) rfl rfl perm_asks_3_c perm_asks_3_p
def TIrW : Tbl :=
  (51, .ir [(true, 4), (true, 4)] atlasref08_Allows_ir) ::
  (81, .ir [(false, 1), (false, 1)] cause_Page_ir) ::
  (49, .ir [(false, 1), (false, 1), (false, 1)] atlasref09_Fault_ir) ::
  (80, .ir [(true, 4), (true, 4)] perm_Allows_ir) ::
  (88, .ir [(false, 1), (false, 1)] atlasref09_Number_ir) ::
  (111, .ir [(true, 4), (true, 4)] perm_reaches_ir) ::
  (175, .ir [(true, 4), (true, 4)] perm_asks_1_ir) ::
  (176, .ir [(true, 4), (true, 4)] perm_asks_2_ir) ::
  (177, .ir [(true, 4), (true, 4)] perm_asks_3_ir) ::
  []
theorem TIrW_ok : ∀ x ∈ TIrW, Known gAll x.1 x.2 :=
  kcons atlasref08_Allows_k <|
  kcons cause_Page_k <|
  kcons atlasref09_Fault_k <|
  kcons perm_Allows_k <|
  kcons atlasref09_Number_k <|
  kcons perm_reaches_k <|
  kcons perm_asks_1_k <|
  kcons perm_asks_2_k <|
  kcons perm_asks_3_k <|
  fun _ h => nomatch h
end Go.Proofs.YtlihbielphcgbaaGreatDoor.Sx
