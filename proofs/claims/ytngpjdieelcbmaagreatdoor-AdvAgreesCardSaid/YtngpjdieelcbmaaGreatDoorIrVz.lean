/-
  IRs of functions, printed by a program of mine (wip/tools/mkir.py, ev.run.lean); each is checked by the kernel against the executor.
-/
import Derived.Test.YtngpjdieelcbmaaGreatDoorBf
import Derived.Test.YtngpjdieelcbmaaGreatDoorProg
namespace Go.Proofs.YtngpjdieelcbmaaGreatDoor.Sx
open Go
set_option maxRecDepth 100000
noncomputable def envIrVz : Env := { P := Tryz.prog, G := gAll, inl := [], unr := [], ded := true }
/-- atlas/atlasref17.Bring -/
def atlasref17_Bring_ir : IR :=
  (.lt (.bin .neq (.v 1) (.c (.i .u64 8))) (.ite (.v 12)
  (.ret [(true, (vr 0 8)), (true, [(.v 8), (.v 9)])])
  (.call 31 [(true, [(.v 8), (.v 9)]), (false, [(.v 3)]), (false, [(.v 10)]), (false, [(.v 11)])] [(true, 13), (true, 3)]
  (.ite (.v 26)
  (.ret [(true, (vr 0 8)), (true, [(.v 8), (.v 9)])])
  (.call 32 [(true, [(.v 8), (.v 9)]), (true, (vr 13 13)), (false, [(.c (.b false))])] [(true, 2), (true, 13)]
  (.call 34 [(true, (vr 31 13)), (false, [(.v 10)]), (false, [(.v 2)])] [(true, 11)]
  (.call 33 [(true, [(.v 0)]), (true, (vr 44 11)), (false, [(.v 7)])] [(true, 1)]
  (.ret [(true, ([(.v 55)] ++ vr 1 6 ++ [(.c (.i .i64 (-1)))])), (true, [(.v 29), (.v 30)])]))))))))
theorem atlasref17_Bring_c : compile envIrVz 3000 9 = .ok atlasref17_Bring_ir := by kernel_rfl
theorem atlasref17_Bring_p : paramShape Tryz.prog 9 = some [(true, 8), (true, 2), (false, 1), (false, 1)] := by kernel_rfl
theorem atlasref17_Bring_k : Known gAll 9 (.ir [(true, 8), (true, 2), (false, 1), (false, 1)] atlasref17_Bring_ir) := known_ir (E := envIrVz) (n := 3000) rfl rfl atlasref17_Bring_c atlasref17_Bring_p
/-- atlas/atlasref17.Evict -/
def atlasref17_Evict_ir : IR :=
  (.call 36 [(true, [(.v 0)]), (false, [(.v 8)]), (false, [(.v 9)])] [(true, 1), (false, 1)]
  (.ret [(true, ([(.v 10)] ++ vr 1 7)), (false, [(.v 11)])]))
theorem atlasref17_Evict_c : compile envIrVz 3000 11 = .ok atlasref17_Evict_ir := by kernel_rfl
theorem atlasref17_Evict_p : paramShape Tryz.prog 11 = some [(true, 8), (false, 1), (false, 1)] := by kernel_rfl
theorem atlasref17_Evict_k : Known gAll 11 (.ir [(true, 8), (false, 1), (false, 1)] atlasref17_Evict_ir) := known_ir (E := envIrVz) (n := 3000) rfl rfl atlasref17_Evict_c atlasref17_Evict_p
/-- atlas/atlasref17.Pick -/
def atlasref17_Pick_ir : IR :=
  (.lt (.bin .lss (.v 8) (.c (.i .i64 0))) (.ite (.v 9)
  (.ret [(true, (vr 0 8)), (false, [(.c (.i .i64 1))])])
  (.lt (.bin .gtr (.v 8) (.c (.i .i64 3))) (.ite (.v 10)
  (.ret [(true, (vr 0 8)), (false, [(.c (.i .i64 1))])])
  (.ret [(true, (vr 0 7 ++ [(.v 8)])), (false, [(.c (.i .i64 0))])])))))
theorem atlasref17_Pick_c : compile envIrVz 3000 13 = .ok atlasref17_Pick_ir := by kernel_rfl
theorem atlasref17_Pick_p : paramShape Tryz.prog 13 = some [(true, 8), (false, 1)] := by kernel_rfl
theorem atlasref17_Pick_k : Known gAll 13 (.ir [(true, 8), (false, 1)] atlasref17_Pick_ir) := known_ir (E := envIrVz) (n := 3000) rfl rfl atlasref17_Pick_c atlasref17_Pick_p
/-- atlas/hart.Right -/
def hart_Right_ir : IR :=
  (.call 40 [(true, [(.v 0)])] [(false, 1)]
  (.ite (.v 8)
  (.call 41 [(true, [(.v 1), (.v 2), (.v 3)])] [(false, 1)]
  (.ite (.v 9)
  (.lt (.bin .eql (.v 4) (.c (.i .i64 0))) (.ite (.v 10)
  (.ret [(false, [(.c (.b true))])])
  (.lt (.bin .eql (.v 4) (.c (.i .i64 1))) (.ret [(false, [(.v 11)])]))))
  (.ret [(false, [(.c (.b false))])])))
  (.ret [(false, [(.c (.b false))])])))
theorem hart_Right_c : compile envIrVz 3000 18 = .ok hart_Right_ir := by kernel_rfl
theorem hart_Right_p : paramShape Tryz.prog 18 = some [(true, 8)] := by kernel_rfl
theorem hart_Right_k : Known gAll 18 (.ir [(true, 8)] hart_Right_ir) := known_ir (E := envIrVz) (n := 3000) rfl rfl hart_Right_c hart_Right_p
/-- atlas/satp.May -/
def satp_May_ir : IR :=
  (.call 26 [(true, [(.v 0), (.v 1), (.v 2)])] [(false, 1)]
  (.lt (.un .not (.v 3)) (.ite (.v 4)
  (.lt (.ite (.eqt false (.v 0) (.c (.i .u64 0))) (.ite (.eqt false (.v 1) (.c (.i .u64 0))) (.ite (.eqt false (.v 2) (.c (.i .u64 0))) (.c (.b true)) (.c (.b false))) (.c (.b false))) (.c (.b false))) (.ret [(false, [(.v 5)])]))
  (.call 79 [(false, [(.v 2)]), (false, [(.c (.i .i64 0))]), (false, [(.c (.i .i64 44))])] [(false, 1)]
  (.lt (.bin .eql (.v 5) (.v 2)) (.ite (.v 6)
  (.call 79 [(false, [(.v 1)]), (false, [(.c (.i .i64 0))]), (false, [(.c (.i .i64 16))])] [(false, 1)]
  (.lt (.bin .eql (.v 7) (.v 1)) (.ret [(false, [(.v 8)])])))
  (.ret [(false, [(.c (.b false))])])))))))
theorem satp_May_c : compile envIrVz 3000 41 = .ok satp_May_ir := by kernel_rfl
theorem satp_May_p : paramShape Tryz.prog 41 = some [(true, 3)] := by kernel_rfl
theorem satp_May_k : Known gAll 41 (.ir [(true, 3)] satp_May_ir) := known_ir (E := envIrVz) (n := 3000) rfl rfl satp_May_c satp_May_p
def TIrVz : Tbl :=
  (9, .ir [(true, 8), (true, 2), (false, 1), (false, 1)] atlasref17_Bring_ir) ::
  (11, .ir [(true, 8), (false, 1), (false, 1)] atlasref17_Evict_ir) ::
  (13, .ir [(true, 8), (false, 1)] atlasref17_Pick_ir) ::
  (18, .ir [(true, 8)] hart_Right_ir) ::
  (41, .ir [(true, 3)] satp_May_ir) ::
  []
theorem TIrVz_ok : ∀ x ∈ TIrVz, Known gAll x.1 x.2 :=
  kcons atlasref17_Bring_k <|
  kcons atlasref17_Evict_k <|
  kcons atlasref17_Pick_k <|
  kcons hart_Right_k <|
  kcons satp_May_k <|
  fun _ h => nomatch h
end Go.Proofs.YtngpjdieelcbmaaGreatDoor.Sx
