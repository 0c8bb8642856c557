/-
  IRs of functions, printed by a program of mine (wip/tools/mkir.py, ev.run.lean); each is checked by the kernel against the executor.
-/
import Derived.Test.YtlihbielphcgbaaGreatDoorBf
import Derived.Test.YtlihbielphcgbaaGreatDoorProg
namespace Go.Proofs.YtlihbielphcgbaaGreatDoor.Sx
open Go
set_option maxRecDepth 100000
noncomputable def envIrPc : Env := { P := Tryz.prog, G := gAll, inl := [], unr := [], ded := true }
/-- atlas/atlasref08.Less -/
def atlasref08_Less_ir : IR :=
  (.lt (.un .not (.v 0)) (.ite (.v 8)
  (.ite (.v 4)
  (.ret [(false, [(.c (.b true))])])
  (.lt (.un .not (.v 1)) (.ite (.v 9)
  (.ite (.v 5)
  (.ret [(false, [(.c (.b true))])])
  (.lt (.un .not (.v 2)) (.ite (.v 10)
  (.ite (.v 6)
  (.ret [(false, [(.c (.b true))])])
  (.lt (.un .not (.v 3)) (.ite (.v 11)
  (.ite (.v 7)
  (.ret [(false, [(.c (.b true))])])
  (.ite (.v 3)
  (.lt (.un .not (.v 7)) (.ret [(false, [(.v 12)])]))
  (.ret [(false, [(.c (.b false))])])))
  (.ite (.v 3)
  (.lt (.un .not (.v 7)) (.ret [(false, [(.v 12)])]))
  (.ret [(false, [(.c (.b false))])])))))
  (.lt (.un .not (.v 3)) (.ite (.v 11)
  (.ite (.v 7)
  (.ret [(false, [(.c (.b true))])])
  (.ite (.v 3)
  (.lt (.un .not (.v 7)) (.ret [(false, [(.v 12)])]))
  (.ret [(false, [(.c (.b false))])])))
  (.ite (.v 3)
  (.lt (.un .not (.v 7)) (.ret [(false, [(.v 12)])]))
  (.ret [(false, [(.c (.b false))])])))))))
  (.lt (.un .not (.v 2)) (.ite (.v 10)
  (.ite (.v 6)
  (.ret [(false, [(.c (.b true))])])
  (.lt (.un .not (.v 3)) (.ite (.v 11)
  (.ite (.v 7)
  (.ret [(false, [(.c (.b true))])])
  (.ite (.v 3)
  (.lt (.un .not (.v 7)) (.ret [(false, [(.v 12)])]))
  (.ret [(false, [(.c (.b false))])])))
  (.ite (.v 3)
  (.lt (.un .not (.v 7)) (.ret [(false, [(.v 12)])]))
  (.ret [(false, [(.c (.b false))])])))))
  (.lt (.un .not (.v 3)) (.ite (.v 11)
  (.ite (.v 7)
  (.ret [(false, [(.c (.b true))])])
  (.ite (.v 3)
  (.lt (.un .not (.v 7)) (.ret [(false, [(.v 12)])]))
  (.ret [(false, [(.c (.b false))])])))
  (.ite (.v 3)
  (.lt (.un .not (.v 7)) (.ret [(false, [(.v 12)])]))
  (.ret [(false, [(.c (.b false))])])))))))))
  (.lt (.un .not (.v 1)) (.ite (.v 9)
  (.ite (.v 5)
  (.ret [(false, [(.c (.b true))])])
  (.lt (.un .not (.v 2)) (.ite (.v 10)
  (.ite (.v 6)
  (.ret [(false, [(.c (.b true))])])
  (.lt (.un .not (.v 3)) (.ite (.v 11)
  (.ite (.v 7)
  (.ret [(false, [(.c (.b true))])])
  (.ite (.v 3)
  (.lt (.un .not (.v 7)) (.ret [(false, [(.v 12)])]))
  (.ret [(false, [(.c (.b false))])])))
  (.ite (.v 3)
  (.lt (.un .not (.v 7)) (.ret [(false, [(.v 12)])]))
  (.ret [(false, [(.c (.b false))])])))))
  (.lt (.un .not (.v 3)) (.ite (.v 11)
  (.ite (.v 7)
  (.ret [(false, [(.c (.b true))])])
  (.ite (.v 3)
  (.lt (.un .not (.v 7)) (.ret [(false, [(.v 12)])]))
  (.ret [(false, [(.c (.b false))])])))
  (.ite (.v 3)
  (.lt (.un .not (.v 7)) (.ret [(false, [(.v 12)])]))
  (.ret [(false, [(.c (.b false))])])))))))
  (.lt (.un .not (.v 2)) (.ite (.v 10)
  (.ite (.v 6)
  (.ret [(false, [(.c (.b true))])])
  (.lt (.un .not (.v 3)) (.ite (.v 11)
  (.ite (.v 7)
  (.ret [(false, [(.c (.b true))])])
  (.ite (.v 3)
  (.lt (.un .not (.v 7)) (.ret [(false, [(.v 12)])]))
  (.ret [(false, [(.c (.b false))])])))
  (.ite (.v 3)
  (.lt (.un .not (.v 7)) (.ret [(false, [(.v 12)])]))
  (.ret [(false, [(.c (.b false))])])))))
  (.lt (.un .not (.v 3)) (.ite (.v 11)
  (.ite (.v 7)
  (.ret [(false, [(.c (.b true))])])
  (.ite (.v 3)
  (.lt (.un .not (.v 7)) (.ret [(false, [(.v 12)])]))
  (.ret [(false, [(.c (.b false))])])))
  (.ite (.v 3)
  (.lt (.un .not (.v 7)) (.ret [(false, [(.v 12)])]))
  (.ret [(false, [(.c (.b false))])]))))))))))
theorem atlasref08_Less_c : compile envIrPc 3000 24 = .ok atlasref08_Less_ir := by kernel_rfl
theorem atlasref08_Less_p : paramShape Tryz.prog 24 = some [(true, 4), (true, 4)] := by kernel_rfl
theorem atlasref08_Less_k : Known gAll 24 (.ir [(true, 4), (true, 4)] atlasref08_Less_ir) := known_ir (E := envIrPc) (n := 3000) rfl rfl atlasref08_Less_c atlasref08_Less_p
/-- atlas/perm.Less -/
def perm_Less_ir : IR :=
  (.ite (.v 4)
  (.lt (.un .not (.v 0)) (.ite (.v 8)
  (.ret [(false, [(.c (.b true))])])
  (.ite (.v 5)
  (.lt (.un .not (.v 1)) (.ite (.v 9)
  (.ret [(false, [(.c (.b true))])])
  (.ite (.v 6)
  (.lt (.un .not (.v 2)) (.ite (.v 10)
  (.ret [(false, [(.c (.b true))])])
  (.lt (.un .not (.eqt true (.v 7) (.v 3))) (.ret [(false, [(.v 11)])]))))
  (.lt (.un .not (.eqt true (.v 7) (.v 3))) (.ret [(false, [(.v 10)])])))))
  (.ite (.v 6)
  (.lt (.un .not (.v 2)) (.ite (.v 9)
  (.ret [(false, [(.c (.b true))])])
  (.lt (.un .not (.eqt true (.v 7) (.v 3))) (.ret [(false, [(.v 10)])]))))
  (.lt (.un .not (.eqt true (.v 7) (.v 3))) (.ret [(false, [(.v 9)])]))))))
  (.ite (.v 5)
  (.lt (.un .not (.v 1)) (.ite (.v 8)
  (.ret [(false, [(.c (.b true))])])
  (.ite (.v 6)
  (.lt (.un .not (.v 2)) (.ite (.v 9)
  (.ret [(false, [(.c (.b true))])])
  (.lt (.un .not (.eqt true (.v 7) (.v 3))) (.ret [(false, [(.v 10)])]))))
  (.lt (.un .not (.eqt true (.v 7) (.v 3))) (.ret [(false, [(.v 9)])])))))
  (.ite (.v 6)
  (.lt (.un .not (.v 2)) (.ite (.v 8)
  (.ret [(false, [(.c (.b true))])])
  (.lt (.un .not (.eqt true (.v 7) (.v 3))) (.ret [(false, [(.v 9)])]))))
  (.lt (.un .not (.eqt true (.v 7) (.v 3))) (.ret [(false, [(.v 8)])])))))
theorem perm_Less_c : compile envIrPc 3000 39 = .ok perm_Less_ir := by kernel_rfl
theorem perm_Less_p : paramShape Tryz.prog 39 = some [(true, 4), (true, 4)] := by kernel_rfl
theorem perm_Less_k : Known gAll 39 (.ir [(true, 4), (true, 4)] perm_Less_ir) := known_ir (E := envIrPc) (n := 3000) rfl rfl perm_Less_c perm_Less_p
/-- atlas/atlasref08.May -/
def atlasref08_May_ir : IR :=
  (.lt (.un .not (.v 0)) (.ite (.v 4)
  (.lt (.un .not (.v 2)) (.ite (.v 5)
  (.ret [(false, [(.c (.b false))])])
  (.lt (.un .not (.v 1)) (.ite (.v 6)
  (.ret [(false, [(.c (.b true))])])
  (.ret [(false, [(.v 0)])])))))
  (.lt (.un .not (.v 1)) (.ite (.v 5)
  (.ret [(false, [(.c (.b true))])])
  (.ret [(false, [(.v 0)])])))))
theorem atlasref08_May_c : compile envIrPc 3000 46 = .ok atlasref08_May_ir := by kernel_rfl
theorem atlasref08_May_p : paramShape Tryz.prog 46 = some [(true, 4)] := by kernel_rfl
theorem atlasref08_May_k : Known gAll 46 (.ir [(true, 4)] atlasref08_May_ir) := known_ir (E := envIrPc) (n := 3000) rfl rfl atlasref08_May_c atlasref08_May_p
/-- atlas/perm.May -/
def perm_May_ir : IR :=
  (.ite (.v 0)
  (.ite (.v 0)
  (.ret [(false, [(.c (.b true))])])
  (.lt (.un .not (.v 1)) (.ret [(false, [(.v 4)])])))
  (.ite (.v 2)
  (.ite (.v 0)
  (.ret [(false, [(.c (.b true))])])
  (.lt (.un .not (.v 1)) (.ret [(false, [(.v 4)])])))
  (.ret [(false, [(.c (.b false))])])))
theorem perm_May_c : compile envIrPc 3000 69 = .ok perm_May_ir := by kernel_rfl
theorem perm_May_p : paramShape Tryz.prog 69 = some [(true, 4)] := by kernel_rfl
theorem perm_May_k : Known gAll 69 (.ir [(true, 4)] perm_May_ir) := known_ir (E := envIrPc) (n := 3000) rfl rfl perm_May_c perm_May_p
/-- atlas/cause.Odd -/
def cause_Odd_ir : IR :=
  (.call 109 [(false, [(.c (.i .i64 0))]), (false, [(.v 0)]), (false, [(.v 1)])] [(true, 3)]
  (.ret [(true, [(.v 2), (.v 3), (.v 4)])]))
theorem cause_Odd_c : compile envIrPc 3000 78 = .ok cause_Odd_ir := by kernel_rfl
theorem cause_Odd_p : paramShape Tryz.prog 78 = some [(false, 1), (false, 1)] := by kernel_rfl
theorem cause_Odd_k : Known gAll 78 (.ir [(false, 1), (false, 1)] cause_Odd_ir) := known_ir (E := envIrPc) (n := 3000) rfl rfl cause_Odd_c cause_Odd_p
/-- atlas/cause.of -/
def cause_of_ir : IR :=
  (.chk (.rng (.v 0) 3) (.chk (.c (.b false)) (.ret [])))
theorem cause_of_c : compile envIrPc 3000 109 = .ok cause_of_ir := by kernel_rfl
theorem cause_of_p : paramShape Tryz.prog 109 = some [(false, 1), (false, 1), (false, 1)] := by kernel_rfl
theorem cause_of_k : Known gAll 109 (.ir [(false, 1), (false, 1), (false, 1)] cause_of_ir) := known_ir (E := envIrPc) (n := 3000) rfl rfl cause_of_c cause_of_p
def TIrPc : Tbl :=
  (24, .ir [(true, 4), (true, 4)] atlasref08_Less_ir) ::
  (39, .ir [(true, 4), (true, 4)] perm_Less_ir) ::
  (46, .ir [(true, 4)] atlasref08_May_ir) ::
  (69, .ir [(true, 4)] perm_May_ir) ::
  (78, .ir [(false, 1), (false, 1)] cause_Odd_ir) ::
  (109, .ir [(false, 1), (false, 1), (false, 1)] cause_of_ir) ::
  []
theorem TIrPc_ok : ∀ x ∈ TIrPc, Known gAll x.1 x.2 :=
  kcons atlasref08_Less_k <|
  kcons perm_Less_k <|
  kcons atlasref08_May_k <|
  kcons perm_May_k <|
  kcons cause_Odd_k <|
  kcons cause_of_k <|
  fun _ h => nomatch h
end Go.Proofs.YtlihbielphcgbaaGreatDoor.Sx
