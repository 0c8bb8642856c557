/-
  IRs of functions, printed by a program of mine (wip/tools/mkir.py, ev.run.lean); each is checked by the kernel against the executor.
-/
import Derived.Test.YthegeidecapfaaaDoorBf
import Derived.Test.YthegeidecapfaaaDoorProg
namespace Go.Proofs.YthegeidecapfaaaDoor.Sx
open Go
set_option maxRecDepth 100000
def inlenvIrW : List FuncId :=
  48 ::
  74 ::
  []
noncomputable def envIrW : Env := { P := Tryd.prog, G := gAll, inl := inlenvIrW, unr := [], ded := true }
/-- atlas/atlaslaw10.fits -/
def atlaslaw10_fits_ir : IR :=
  (.call 28 [(true, [(.v 0), (.v 1)])] [(false, 1)]
  (.ite (.v 3)
  (.call 21 [(true, [(.v 0), (.v 1)])] [(false, 1)]
  (.ite (.v 4)
  (.lt (.bin .lss (.v 2) (.c (.i .u64 17592186044416))) (.ret [(false, [(.v 5)])]))
  (.ret [(false, [(.c (.b false))])])))
  (.ret [(false, [(.c (.b false))])])))
theorem atlaslaw10_fits_c : compile envIrW 3000 10 = .ok atlaslaw10_fits_ir := by kernel_rfl
theorem atlaslaw10_fits_p : paramShape Tryd.prog 10 = some [(true, 2), (false, 1)] := by kernel_rfl
theorem atlaslaw10_fits_k : Known gAll 10 (.ir [(true, 2), (false, 1)] atlaslaw10_fits_ir) := known_ir (E := envIrW) (n := 3000) rfl rfl atlaslaw10_fits_c atlaslaw10_fits_p
/-- atlas/walk.Look -/
def walk_Look_ir : IR :=
  (.call 29 [(false, [(.v 3)])] [(false, 1)]
  (.lt (.un .not (.v 5)) (.ite (.v 6)
  (.call 30 [(false, [(.v 4)]), (false, [(.v 3)])] [(true, 3)]
  (.ret [(true, [(.c (.i .i64 0)), (.c (.i .u64 0)), (.c (.b false)), (.c (.b false)), (.c (.b false)), (.c (.b false)), (.c (.b false)), (.c (.b false)), (.c (.b false)), (.c (.b false)), (.c (.i .u64 0)), (.c (.i .u64 0)), (.c (.i .u64 0))]), (true, [(.v 7), (.v 8), (.v 9)])]))
  (.loop [(.c (.b false)), (.c (.i .i64 2)), (.v 2)]
  (.call 31 [(false, [(.v 9)]), (false, [(.v 3)]), (false, [(.v 8)])] [(false, 1)]
  (.call 32 [(true, [(.v 0), (.v 1)]), (false, [(.v 10)]), (false, [(.c (.i .i64 8))])] [(false, 1), (false, 1)]
  (.lt (.bin .neq (.v 12) (.c (.i .i64 0))) (.ite (.v 13)
  (.call 33 [(false, [(.v 4)]), (false, [(.v 3)])] [(true, 3)]
  (.ret [(true, [(.c (.i .i64 0)), (.c (.i .u64 0)), (.c (.b false)), (.c (.b false)), (.c (.b false)), (.c (.b false)), (.c (.b false)), (.c (.b false)), (.c (.b false)), (.c (.b false)), (.c (.i .u64 0)), (.c (.i .u64 0)), (.c (.i .u64 0))]), (true, [(.v 14), (.v 15), (.v 16)])]))
  (.call 34 [(false, [(.v 11)])] [(true, 11)]
  (.ite (.v 7)
  (.call 35 [(true, (vr 14 11)), (false, [(.v 8)])] [(false, 1)]
  (.ite (.v 25)
  (.call 30 [(false, [(.v 4)]), (false, [(.v 3)])] [(true, 3)]
  (.ret [(true, [(.c (.i .i64 0)), (.c (.i .u64 0)), (.c (.b false)), (.c (.b false)), (.c (.b false)), (.c (.b false)), (.c (.b false)), (.c (.b false)), (.c (.b false)), (.c (.b false)), (.c (.i .u64 0)), (.c (.i .u64 0)), (.c (.i .u64 0))]), (true, [(.v 26), (.v 27), (.v 28)])]))
  (.call 36 [(true, (vr 14 11))] [(false, 1)]
  (.ite (.v 26)
  (.ret [(true, ([(.v 8), (.v 10)] ++ vr 14 5 ++ [(.c (.b true))] ++ vr 20 5)), (true, [(.c (.b false)), (.c (.i .i64 0)), (.c (.i .u64 0))])])
  (.lt (.bin .sub (.v 8) (.c (.i .i64 1))) (.cont 0 [(.c (.b true)), (.v 27), (.v 23)]))))))
  (.call 35 [(true, (vr 14 11)), (false, [(.v 8)])] [(false, 1)]
  (.ite (.v 25)
  (.call 30 [(false, [(.v 4)]), (false, [(.v 3)])] [(true, 3)]
  (.ret [(true, [(.c (.i .i64 0)), (.c (.i .u64 0)), (.c (.b false)), (.c (.b false)), (.c (.b false)), (.c (.b false)), (.c (.b false)), (.c (.b false)), (.c (.b false)), (.c (.b false)), (.c (.i .u64 0)), (.c (.i .u64 0)), (.c (.i .u64 0))]), (true, [(.v 26), (.v 27), (.v 28)])]))
  (.call 36 [(true, (vr 14 11))] [(false, 1)]
  (.ite (.v 26)
  (.ret [(true, ([(.v 8), (.v 10)] ++ vr 14 11)), (true, [(.c (.b false)), (.c (.i .i64 0)), (.c (.i .u64 0))])])
  (.lt (.bin .sub (.v 8) (.c (.i .i64 1))) (.cont 0 [(.v 19), (.v 27), (.v 23)]))))))))))))))))
theorem walk_Look_c : compile envIrW 3000 11 = .ok walk_Look_ir := by kernel_rfl
theorem walk_Look_p : paramShape Tryd.prog 11 = some [(true, 2), (false, 1), (false, 1), (false, 1)] := by kernel_rfl
theorem walk_Look_k : Known gAll 11 (.ir [(true, 2), (false, 1), (false, 1), (false, 1)] walk_Look_ir) := known_ir (E := envIrW) (n := 3000) rfl rfl walk_Look_c walk_Look_p
/-- atlas/atlasref10.Look -/
def atlasref10_Look_ir : IR :=
  (.call 25 [(false, [(.v 3)])] [(false, 1)]
  (.lt (.un .not (.v 5)) (.ite (.v 6)
  (.call 37 [(false, [(.c (.i .i64 3))]), (false, [(.v 4)]), (false, [(.v 3)])] [(true, 3)]
  (.ret [(true, [(.c (.i .i64 0)), (.c (.i .u64 0)), (.c (.b false)), (.c (.b false)), (.c (.b false)), (.c (.b false)), (.c (.b false)), (.c (.b false)), (.c (.b false)), (.c (.b false)), (.c (.i .u64 0)), (.c (.i .u64 0)), (.c (.i .u64 0))]), (true, [(.v 7), (.v 8), (.v 9)])]))
  (.call 38 [(true, [(.v 0), (.v 1)]), (false, [(.v 2)]), (false, [(.v 3)]), (false, [(.v 4)]), (false, [(.c (.i .i64 2))]), (false, [(.c (.b false))])] [(true, 13), (true, 3)]
  (.ret [(true, (vr 7 13)), (true, [(.v 20), (.v 21), (.v 22)])])))))
theorem atlasref10_Look_c : compile envIrW 3000 12 = .ok atlasref10_Look_ir := by kernel_rfl
theorem atlasref10_Look_p : paramShape Tryd.prog 12 = some [(true, 2), (false, 1), (false, 1), (false, 1)] := by kernel_rfl
theorem atlasref10_Look_k : Known gAll 12 (.ir [(true, 2), (false, 1), (false, 1), (false, 1)] atlasref10_Look_ir) := known_ir (E := envIrW) (n := 3000) rfl rfl atlasref10_Look_c atlasref10_Look_p
/-- atlas/walk.Physical -/
def walk_Physical_ir : IR :=
  (.lt (.bin .mul (.v 11) (.c (.i .u64 4096))) (.call 39 [(false, [(.v 13)]), (false, [(.v 0)])] [(false, 1)]
  (.lt (.bin .add (.v 14) (.v 15)) (.ret [(false, [(.v 16)])]))))
theorem walk_Physical_c : compile envIrW 3000 13 = .ok walk_Physical_ir := by kernel_rfl
theorem walk_Physical_p : paramShape Tryd.prog 13 = some [(true, 13), (false, 1)] := by kernel_rfl
theorem walk_Physical_k : Known gAll 13 (.ir [(true, 13), (false, 1)] walk_Physical_ir) := known_ir (E := envIrW) (n := 3000) rfl rfl walk_Physical_c walk_Physical_p
/-- atlas/atlasref10.Physical -/
def atlasref10_Physical_ir : IR :=
  (.lt (.bin .mul (.c (.i .u64 4096)) (.v 11)) (.call 40 [(false, [(.v 13)]), (false, [(.v 0)])] [(false, 1)]
  (.lt (.bin .add (.v 14) (.v 15)) (.ret [(false, [(.v 16)])]))))
theorem atlasref10_Physical_c : compile envIrW 3000 14 = .ok atlasref10_Physical_ir := by kernel_rfl
theorem atlasref10_Physical_p : paramShape Tryd.prog 14 = some [(true, 13), (false, 1)] := by kernel_rfl
theorem atlasref10_Physical_k : Known gAll 14 (.ir [(true, 13), (false, 1)] atlasref10_Physical_ir) := known_ir (E := envIrW) (n := 3000) rfl rfl atlasref10_Physical_c atlasref10_Physical_p
/-- atlas/atlasref08.Is -/
def atlasref08_Is_ir : IR :=
  (.lt (.bin .eql (.v 0) (.c (.i .i64 0))) (.ite (.v 4)
  (.lt (.bin .eql (.v 1) (.c (.i .i64 0))) (.ite (.v 5)
  (.ret [(false, [(.c (.b true))])])
  (.lt (.bin .eql (.v 1) (.c (.i .i64 1))) (.ret [(false, [(.v 6)])]))))
  (.lt (.bin .eql (.v 0) (.c (.i .i64 1))) (.ite (.v 5)
  (.lt (.bin .eql (.v 1) (.c (.i .i64 0))) (.ite (.v 6)
  (.ret [(false, [(.c (.b true))])])
  (.lt (.bin .eql (.v 1) (.c (.i .i64 1))) (.ret [(false, [(.v 7)])]))))
  (.lt (.bin .eql (.v 0) (.c (.i .i64 2))) (.ite (.v 6)
  (.lt (.bin .eql (.v 1) (.c (.i .i64 0))) (.ite (.v 7)
  (.ret [(false, [(.c (.b true))])])
  (.lt (.bin .eql (.v 1) (.c (.i .i64 1))) (.ret [(false, [(.v 8)])]))))
  (.ret [(false, [(.c (.b false))])])))))))
theorem atlasref08_Is_c : compile envIrW 3000 15 = .ok atlasref08_Is_ir := by kernel_rfl
theorem atlasref08_Is_p : paramShape Tryd.prog 15 = some [(true, 4)] := by kernel_rfl
theorem atlasref08_Is_k : Known gAll 15 (.ir [(true, 4)] atlasref08_Is_ir) := known_ir (E := envIrW) (n := 3000) rfl rfl atlasref08_Is_c atlasref08_Is_p
/-- atlas/walk.Walk -/
def walk_Walk_ir : IR :=
  (.call 11 [(true, [(.v 0), (.v 1)]), (false, [(.v 2)]), (false, [(.v 3)]), (false, [(.v 4)])] [(true, 13), (true, 3)]
  (.ite (.v 21)
  (.ret [(true, [(.v 0), (.v 1)]), (true, [(.c (.i .i64 0)), (.c (.i .u64 0)), (.c (.b false)), (.c (.b false)), (.c (.b false)), (.c (.b false)), (.c (.b false)), (.c (.b false)), (.c (.b false)), (.c (.b false)), (.c (.i .u64 0)), (.c (.i .u64 0)), (.c (.i .u64 0))]), (true, [(.v 21), (.v 22), (.v 23)])])
  (.call 42 [(true, (vr 10 11))] [(true, 4)]
  (.call 41 [(true, (vr 24 4)), (true, (vr 4 4))] [(false, 1)]
  (.lt (.un .not (.v 28)) (.ite (.v 29)
  (.call 30 [(false, [(.v 4)]), (false, [(.v 3)])] [(true, 3)]
  (.ret [(true, [(.v 0), (.v 1)]), (true, [(.c (.i .i64 0)), (.c (.i .u64 0)), (.c (.b false)), (.c (.b false)), (.c (.b false)), (.c (.b false)), (.c (.b false)), (.c (.b false)), (.c (.b false)), (.c (.b false)), (.c (.i .u64 0)), (.c (.i .u64 0)), (.c (.i .u64 0))]), (true, [(.v 30), (.v 31), (.v 32)])]))
  (.lt (.bin .eql (.v 4) (.c (.i .i64 2))) (.call 19 [(true, [(.v 0), (.v 1)]), (true, (vr 8 13)), (false, [(.v 30)])] [(true, 2), (true, 13)]
  (.ret [(true, [(.v 31), (.v 32)]), (true, (vr 33 13)), (true, [(.c (.b false)), (.c (.i .i64 0)), (.c (.i .u64 0))])])))))))))
theorem walk_Walk_c : compile envIrW 3000 16 = .ok walk_Walk_ir := by kernel_rfl
theorem walk_Walk_p : paramShape Tryd.prog 16 = some [(true, 2), (false, 1), (false, 1), (true, 4)] := by kernel_rfl
theorem walk_Walk_k : Known gAll 16 (.ir [(true, 2), (false, 1), (false, 1), (true, 4)] walk_Walk_ir) := known_ir (E := envIrW) (n := 3000) rfl rfl walk_Walk_c walk_Walk_p
/-- atlas/atlasref10.Walk -/
def atlasref10_Walk_ir : IR :=
  (.call 12 [(true, [(.v 0), (.v 1)]), (false, [(.v 2)]), (false, [(.v 3)]), (false, [(.v 4)])] [(true, 13), (true, 3)]
  (.ite (.v 21)
  (.ret [(true, [(.v 0), (.v 1)]), (true, (vr 8 13)), (true, [(.v 21), (.v 22), (.v 23)])])
  (.call 24 [(true, (vr 10 11))] [(true, 4)]
  (.call 23 [(true, (vr 24 4)), (true, (vr 4 4))] [(false, 1)]
  (.lt (.un .not (.v 28)) (.ite (.v 29)
  (.call 37 [(false, [(.c (.i .i64 3))]), (false, [(.v 4)]), (false, [(.v 3)])] [(true, 3)]
  (.ret [(true, [(.v 0), (.v 1)]), (true, [(.c (.i .i64 0)), (.c (.i .u64 0)), (.c (.b false)), (.c (.b false)), (.c (.b false)), (.c (.b false)), (.c (.b false)), (.c (.b false)), (.c (.b false)), (.c (.b false)), (.c (.i .u64 0)), (.c (.i .u64 0)), (.c (.i .u64 0))]), (true, [(.v 30), (.v 31), (.v 32)])]))
  (.lt (.bin .eql (.v 4) (.c (.i .i64 2))) (.call 20 [(true, [(.v 0), (.v 1)]), (true, (vr 8 13)), (false, [(.v 30)])] [(true, 2), (true, 13)]
  (.ret [(true, [(.v 31), (.v 32)]), (true, (vr 33 13)), (true, [(.c (.b false)), (.c (.i .i64 0)), (.c (.i .u64 0))])])))))))))
theorem atlasref10_Walk_c : compile envIrW 3000 17 = .ok atlasref10_Walk_ir := by kernel_rfl
theorem atlasref10_Walk_p : paramShape Tryd.prog 17 = some [(true, 2), (false, 1), (false, 1), (true, 4)] := by kernel_rfl
theorem atlasref10_Walk_k : Known gAll 17 (.ir [(true, 2), (false, 1), (false, 1), (true, 4)] atlasref10_Walk_ir) := known_ir (E := envIrW) (n := 3000) rfl rfl atlasref10_Walk_c atlasref10_Walk_p
/-- atlas/walk.Mark -/
def walk_Mark_ir : IR :=
  (.call 43 [(true, [(.v 0), (.v 1)]), (false, [(.v 3)])] [(false, 1)]
  (.call 34 [(false, [(.v 16)])] [(true, 11)]
  (.ite (.v 24)
  (.call 44 [(true, (vr 17 6 ++ [(.c (.b true)), (.c (.b true)), (.v 25), (.v 26), (.v 27)]))] [(false, 1), (false, 1)]
  (.call 45 [(true, [(.v 0), (.v 1)]), (false, [(.v 3)]), (false, [(.c (.i .i64 8))]), (false, [(.v 28)])] [(true, 2), (false, 1)]
  (.ret [(true, [(.v 30), (.v 31)]), (true, (vr 2 8 ++ [(.c (.b true)), (.c (.b true)), (.v 12), (.v 13), (.v 14)]))])))
  (.call 44 [(true, (vr 17 6 ++ [(.c (.b true)), (.v 15), (.v 25), (.v 26), (.v 27)]))] [(false, 1), (false, 1)]
  (.call 45 [(true, [(.v 0), (.v 1)]), (false, [(.v 3)]), (false, [(.c (.i .i64 8))]), (false, [(.v 28)])] [(true, 2), (false, 1)]
  (.ret [(true, [(.v 30), (.v 31)]), (true, (vr 2 8 ++ [(.c (.b true)), (.v 15), (.v 12), (.v 13), (.v 14)]))]))))))
theorem walk_Mark_c : compile envIrW 3000 19 = .ok walk_Mark_ir := by kernel_rfl
theorem walk_Mark_p : paramShape Tryd.prog 19 = some [(true, 2), (true, 13), (false, 1)] := by kernel_rfl
theorem walk_Mark_k : Known gAll 19 (.ir [(true, 2), (true, 13), (false, 1)] walk_Mark_ir) := known_ir (E := envIrW) (n := 3000) rfl rfl walk_Mark_c walk_Mark_p
/-- atlas/atlasref10.Mark -/
def atlasref10_Mark_ir : IR :=
  (.call 22 [(true, [(.v 0), (.v 1)]), (false, [(.v 3)])] [(false, 1)]
  (.lt (.bin .quo (.v 16) (.c (.i .u64 64))) (.lt (.bin .rem (.v 17) (.c (.i .u64 2))) (.lt (.bin .eql (.v 18) (.c (.i .u64 0))) (.ite (.v 19)
  (.lt (.bin .add (.v 16) (.c (.i .u64 64))) (.ite (.v 15)
  (.lt (.bin .quo (.v 20) (.c (.i .u64 128))) (.lt (.bin .rem (.v 21) (.c (.i .u64 2))) (.lt (.bin .eql (.v 22) (.c (.i .u64 0))) (.ite (.v 23)
  (.lt (.bin .add (.v 20) (.c (.i .u64 128))) (.lt (.bin .quo (.v 24) (.c (.i .u64 128))) (.lt (.bin .rem (.v 25) (.c (.i .u64 2))) (.lt (.bin .eql (.v 26) (.c (.i .u64 1))) (.lt (.bin .quo (.v 3) (.c (.i .u64 8))) (.call 46 [(true, [(.v 0), (.v 1)]), (false, [(.v 28)]), (false, [(.v 24)])] [(true, 2)]
  (.ret [(true, [(.v 29), (.v 30)]), (true, (vr 2 8 ++ [(.c (.b true)), (.v 27), (.v 12), (.v 13), (.v 14)]))])))))))
  (.lt (.bin .quo (.v 20) (.c (.i .u64 128))) (.lt (.bin .rem (.v 24) (.c (.i .u64 2))) (.lt (.bin .eql (.v 25) (.c (.i .u64 1))) (.lt (.bin .quo (.v 3) (.c (.i .u64 8))) (.call 46 [(true, [(.v 0), (.v 1)]), (false, [(.v 27)]), (false, [(.v 20)])] [(true, 2)]
  (.ret [(true, [(.v 28), (.v 29)]), (true, (vr 2 8 ++ [(.c (.b true)), (.v 26), (.v 12), (.v 13), (.v 14)]))]))))))))))
  (.lt (.bin .quo (.v 20) (.c (.i .u64 128))) (.lt (.bin .rem (.v 21) (.c (.i .u64 2))) (.lt (.bin .eql (.v 22) (.c (.i .u64 1))) (.lt (.bin .quo (.v 3) (.c (.i .u64 8))) (.call 46 [(true, [(.v 0), (.v 1)]), (false, [(.v 24)]), (false, [(.v 20)])] [(true, 2)]
  (.ret [(true, [(.v 25), (.v 26)]), (true, (vr 2 8 ++ [(.c (.b true)), (.v 23), (.v 12), (.v 13), (.v 14)]))]))))))))
  (.ite (.v 15)
  (.lt (.bin .quo (.v 16) (.c (.i .u64 128))) (.lt (.bin .rem (.v 20) (.c (.i .u64 2))) (.lt (.bin .eql (.v 21) (.c (.i .u64 0))) (.ite (.v 22)
  (.lt (.bin .add (.v 16) (.c (.i .u64 128))) (.lt (.bin .quo (.v 23) (.c (.i .u64 128))) (.lt (.bin .rem (.v 24) (.c (.i .u64 2))) (.lt (.bin .eql (.v 25) (.c (.i .u64 1))) (.lt (.bin .quo (.v 3) (.c (.i .u64 8))) (.call 46 [(true, [(.v 0), (.v 1)]), (false, [(.v 27)]), (false, [(.v 23)])] [(true, 2)]
  (.ret [(true, [(.v 28), (.v 29)]), (true, (vr 2 8 ++ [(.c (.b true)), (.v 26), (.v 12), (.v 13), (.v 14)]))])))))))
  (.lt (.bin .quo (.v 16) (.c (.i .u64 128))) (.lt (.bin .rem (.v 23) (.c (.i .u64 2))) (.lt (.bin .eql (.v 24) (.c (.i .u64 1))) (.lt (.bin .quo (.v 3) (.c (.i .u64 8))) (.call 46 [(true, [(.v 0), (.v 1)]), (false, [(.v 26)]), (false, [(.v 16)])] [(true, 2)]
  (.ret [(true, [(.v 27), (.v 28)]), (true, (vr 2 8 ++ [(.c (.b true)), (.v 25), (.v 12), (.v 13), (.v 14)]))]))))))))))
  (.lt (.bin .quo (.v 16) (.c (.i .u64 128))) (.lt (.bin .rem (.v 20) (.c (.i .u64 2))) (.lt (.bin .eql (.v 21) (.c (.i .u64 1))) (.lt (.bin .quo (.v 3) (.c (.i .u64 8))) (.call 46 [(true, [(.v 0), (.v 1)]), (false, [(.v 23)]), (false, [(.v 16)])] [(true, 2)]
  (.ret [(true, [(.v 24), (.v 25)]), (true, (vr 2 8 ++ [(.c (.b true)), (.v 22), (.v 12), (.v 13), (.v 14)]))]))))))))))))
theorem atlasref10_Mark_c : compile envIrW 3000 20 = .ok atlasref10_Mark_ir := by kernel_rfl
theorem atlasref10_Mark_p : paramShape Tryd.prog 20 = some [(true, 2), (true, 13), (false, 1)] := by kernel_rfl
theorem atlasref10_Mark_k : Known gAll 20 (.ir [(true, 2), (true, 13), (false, 1)] atlasref10_Mark_ir) := known_ir (E := envIrW) (n := 3000) rfl rfl atlasref10_Mark_c atlasref10_Mark_p
/-- atlas/atlasref08.Allows -/
def atlasref08_Allows_ir : IR :=
  (.lt (.bin .eql (.v 5) (.c (.i .i64 0))) (.ite (.v 8)
  (.lt (.un .not (.v 3)) (.ite (.v 9)
  (.ret [(false, [(.c (.b false))])])
  (.lt (.bin .eql (.v 5) (.c (.i .i64 1))) (.ite (.v 10)
  (.ite (.v 3)
  (.lt (.bin .eql (.v 4) (.c (.i .i64 0))) (.ite (.v 11)
  (.ret [(false, [(.c (.b false))])])
  (.lt (.un .not (.v 6)) (.ite (.v 12)
  (.ret [(false, [(.c (.b false))])])
  (.lt (.bin .eql (.v 4) (.c (.i .i64 0))) (.ite (.v 13)
  (.ret [(false, [(.v 2)])])
  (.lt (.bin .eql (.v 4) (.c (.i .i64 1))) (.ite (.v 14)
  (.ite (.v 0)
  (.ret [(false, [(.c (.b true))])])
  (.ite (.v 2)
  (.ret [(false, [(.v 7)])])
  (.ret [(false, [(.c (.b false))])])))
  (.ret [(false, [(.v 1)])])))))))))
  (.lt (.bin .eql (.v 4) (.c (.i .i64 0))) (.ite (.v 11)
  (.ret [(false, [(.v 2)])])
  (.lt (.bin .eql (.v 4) (.c (.i .i64 1))) (.ite (.v 12)
  (.ite (.v 0)
  (.ret [(false, [(.c (.b true))])])
  (.ite (.v 2)
  (.ret [(false, [(.v 7)])])
  (.ret [(false, [(.c (.b false))])])))
  (.ret [(false, [(.v 1)])]))))))
  (.lt (.bin .eql (.v 4) (.c (.i .i64 0))) (.ite (.v 11)
  (.ret [(false, [(.v 2)])])
  (.lt (.bin .eql (.v 4) (.c (.i .i64 1))) (.ite (.v 12)
  (.ite (.v 0)
  (.ret [(false, [(.c (.b true))])])
  (.ite (.v 2)
  (.ret [(false, [(.v 7)])])
  (.ret [(false, [(.c (.b false))])])))
  (.ret [(false, [(.v 1)])])))))))))
  (.lt (.bin .eql (.v 5) (.c (.i .i64 1))) (.ite (.v 9)
  (.ite (.v 3)
  (.lt (.bin .eql (.v 4) (.c (.i .i64 0))) (.ite (.v 10)
  (.ret [(false, [(.c (.b false))])])
  (.lt (.un .not (.v 6)) (.ite (.v 11)
  (.ret [(false, [(.c (.b false))])])
  (.lt (.bin .eql (.v 4) (.c (.i .i64 0))) (.ite (.v 12)
  (.ret [(false, [(.v 2)])])
  (.lt (.bin .eql (.v 4) (.c (.i .i64 1))) (.ite (.v 13)
  (.ite (.v 0)
  (.ret [(false, [(.c (.b true))])])
  (.ite (.v 2)
  (.ret [(false, [(.v 7)])])
  (.ret [(false, [(.c (.b false))])])))
  (.ret [(false, [(.v 1)])])))))))))
  (.lt (.bin .eql (.v 4) (.c (.i .i64 0))) (.ite (.v 10)
  (.ret [(false, [(.v 2)])])
  (.lt (.bin .eql (.v 4) (.c (.i .i64 1))) (.ite (.v 11)
  (.ite (.v 0)
  (.ret [(false, [(.c (.b true))])])
  (.ite (.v 2)
  (.ret [(false, [(.v 7)])])
  (.ret [(false, [(.c (.b false))])])))
  (.ret [(false, [(.v 1)])]))))))
  (.lt (.bin .eql (.v 4) (.c (.i .i64 0))) (.ite (.v 10)
  (.ret [(false, [(.v 2)])])
  (.lt (.bin .eql (.v 4) (.c (.i .i64 1))) (.ite (.v 11)
  (.ite (.v 0)
  (.ret [(false, [(.c (.b true))])])
  (.ite (.v 2)
  (.ret [(false, [(.v 7)])])
  (.ret [(false, [(.c (.b false))])])))
  (.ret [(false, [(.v 1)])])))))))))
theorem atlasref08_Allows_c : compile envIrW 3000 23 = .ok atlasref08_Allows_ir := by kernel_rfl
theorem atlasref08_Allows_p : paramShape Tryd.prog 23 = some [(true, 4), (true, 4)] := by kernel_rfl
theorem atlasref08_Allows_k : Known gAll 23 (.ir [(true, 4), (true, 4)] atlasref08_Allows_ir) := known_ir (E := envIrW) (n := 3000) rfl rfl atlasref08_Allows_c atlasref08_Allows_p
/-- atlas/atlasref06.Perm -/
def atlasref06_Perm_ir : IR :=
  (.ret [(true, (vr 1 4))])
theorem atlasref06_Perm_c : compile envIrW 3000 24 = .ok atlasref06_Perm_ir := by kernel_rfl
theorem atlasref06_Perm_p : paramShape Tryd.prog 24 = some [(true, 11)] := by kernel_rfl
theorem atlasref06_Perm_k : Known gAll 24 (.ir [(true, 11)] atlasref06_Perm_ir) := known_ir (E := envIrW) (n := 3000) rfl rfl atlasref06_Perm_c atlasref06_Perm_p
/-- atlas/cause.Page -/
def cause_Page_ir : IR :=
  (.chk (.rng (.v 0) 3) (.ret [(true, [(.c (.b true)), (selE (.v 0) 0 [(.c (.i .i64 12)), (.c (.i .i64 13)), (.c (.i .i64 15))]), (.v 1)])]))
theorem cause_Page_c : compile envIrW 3000 30 = .ok cause_Page_ir := by kernel_rfl
theorem cause_Page_p : paramShape Tryd.prog 30 = some [(false, 1), (false, 1)] := by kernel_rfl
theorem cause_Page_k : Known gAll 30 (.ir [(false, 1), (false, 1)] cause_Page_ir) := known_ir (E := envIrW) (n := 3000) rfl rfl cause_Page_c cause_Page_p
/-- atlas/walk.slot -/
def walk_slot_ir : IR :=
  (.lt (.bin .mul (.v 0) (.c (.i .u64 4096))) (.call 49 [(false, [(.v 1)]), (false, [(.v 2)])] [(false, 1)]
  (.lt (.cv .u64 (.v 4)) (.lt (.bin .mul (.v 5) (.c (.i .u64 8))) (.lt (.bin .add (.v 3) (.v 6)) (.ret [(false, [(.v 7)])]))))))
theorem walk_slot_c : compile envIrW 3000 31 = .ok walk_slot_ir := by kernel_rfl
theorem walk_slot_p : paramShape Tryd.prog 31 = some [(false, 1), (false, 1), (false, 1)] := by kernel_rfl
theorem walk_slot_k : Known gAll 31 (.ir [(false, 1), (false, 1), (false, 1)] walk_slot_ir) := known_ir (E := envIrW) (n := 3000) rfl rfl walk_slot_c walk_slot_p
/-- atlas/cause.Access -/
def cause_Access_ir : IR :=
  (.chk (.rng (.v 0) 3) (.ret [(true, [(.c (.b true)), (selE (.v 0) 0 [(.c (.i .i64 1)), (.c (.i .i64 5)), (.c (.i .i64 7))]), (.v 1)])]))
theorem cause_Access_c : compile envIrW 3000 33 = .ok cause_Access_ir := by kernel_rfl
theorem cause_Access_p : paramShape Tryd.prog 33 = some [(false, 1), (false, 1)] := by kernel_rfl
theorem cause_Access_k : Known gAll 33 (.ir [(false, 1), (false, 1)] cause_Access_ir) := known_ir (E := envIrW) (n := 3000) rfl rfl cause_Access_c cause_Access_p
/-- atlas/pte.Get -/
def pte_Get_ir : IR :=
  (.call (capOff + 52) [(false, [(.c (.i .i64 1))]), (false, [(.c (.i .i64 0))]), (true, [(.v 0)])] [(false, 1)]
  (.call (capOff + 52) [(false, [(.c (.i .i64 1))]), (false, [(.c (.i .i64 1))]), (true, [(.v 0)])] [(false, 1)]
  (.call (capOff + 52) [(false, [(.c (.i .i64 1))]), (false, [(.c (.i .i64 2))]), (true, [(.v 0)])] [(false, 1)]
  (.call (capOff + 52) [(false, [(.c (.i .i64 1))]), (false, [(.c (.i .i64 3))]), (true, [(.v 0)])] [(false, 1)]
  (.call (capOff + 52) [(false, [(.c (.i .i64 1))]), (false, [(.c (.i .i64 4))]), (true, [(.v 0)])] [(false, 1)]
  (.call (capOff + 52) [(false, [(.c (.i .i64 1))]), (false, [(.c (.i .i64 5))]), (true, [(.v 0)])] [(false, 1)]
  (.call (capOff + 52) [(false, [(.c (.i .i64 1))]), (false, [(.c (.i .i64 6))]), (true, [(.v 0)])] [(false, 1)]
  (.call (capOff + 52) [(false, [(.c (.i .i64 1))]), (false, [(.c (.i .i64 7))]), (true, [(.v 0)])] [(false, 1)]
  (.call 51 [(false, [(.v 0)]), (false, [(.c (.i .i64 8))]), (false, [(.c (.i .i64 2))])] [(false, 1)]
  (.call 51 [(false, [(.v 0)]), (false, [(.c (.i .i64 10))]), (false, [(.c (.i .i64 44))])] [(false, 1)]
  (.call 51 [(false, [(.v 0)]), (false, [(.c (.i .i64 54))]), (false, [(.c (.i .i64 10))])] [(false, 1)]
  (.ret [(true, (vr 1 11))]))))))))))))
theorem pte_Get_c : compile envIrW 3000 34 = .ok pte_Get_ir := by kernel_rfl
theorem pte_Get_p : paramShape Tryd.prog 34 = some [(false, 1)] := by kernel_rfl
theorem pte_Get_k : Known gAll 34 (.ir [(false, 1)] pte_Get_ir) := known_ir (E := envIrW) (n := 3000) rfl rfl pte_Get_c pte_Get_p
/-- atlas/pte.Bad -/
def pte_Bad_ir : IR :=
  (.lt (.un .not (.v 0)) (.ite (.v 12)
  (.ret [(false, [(.c (.b true))])])
  (.ite (.v 2)
  (.lt (.un .not (.v 1)) (.ite (.v 13)
  (.ret [(false, [(.c (.b true))])])
  (.lt (.bin .neq (.v 10) (.c (.i .u64 0))) (.ite (.v 14)
  (.ret [(false, [(.c (.b true))])])
  (.call 53 [(true, (vr 0 11))] [(false, 1)]
  (.ite (.v 15)
  (.lt (.bin .eql (.v 11) (.c (.i .i64 0))) (.ite (.v 16)
  (.ret [(false, [(.c (.b true))])])
  (.ite (.v 6)
  (.ret [(false, [(.c (.b true))])])
  (.ite (.v 7)
  (.ret [(false, [(.c (.b true))])])
  (.ret [(false, [(.v 4)])])))))
  (.call 55 [(false, [(.v 11)])] [(false, 1)]
  (.lt (.bin .quo (.v 16) (.c (.i .u64 4096))) (.call 54 [(false, [(.v 9)]), (false, [(.v 17)])] [(false, 1)]
  (.lt (.un .not (.v 18)) (.ret [(false, [(.v 19)])])))))))))))
  (.lt (.bin .neq (.v 10) (.c (.i .u64 0))) (.ite (.v 13)
  (.ret [(false, [(.c (.b true))])])
  (.call 53 [(true, (vr 0 11))] [(false, 1)]
  (.ite (.v 14)
  (.lt (.bin .eql (.v 11) (.c (.i .i64 0))) (.ite (.v 15)
  (.ret [(false, [(.c (.b true))])])
  (.ite (.v 6)
  (.ret [(false, [(.c (.b true))])])
  (.ite (.v 7)
  (.ret [(false, [(.c (.b true))])])
  (.ret [(false, [(.v 4)])])))))
  (.call 55 [(false, [(.v 11)])] [(false, 1)]
  (.lt (.bin .quo (.v 15) (.c (.i .u64 4096))) (.call 54 [(false, [(.v 9)]), (false, [(.v 16)])] [(false, 1)]
  (.lt (.un .not (.v 17)) (.ret [(false, [(.v 18)])]))))))))))))
theorem pte_Bad_c : compile envIrW 3000 35 = .ok pte_Bad_ir := by kernel_rfl
theorem pte_Bad_p : paramShape Tryd.prog 35 = some [(true, 11), (false, 1)] := by kernel_rfl
theorem pte_Bad_k : Known gAll 35 (.ir [(true, 11), (false, 1)] pte_Bad_ir) := known_ir (E := envIrW) (n := 3000) rfl rfl pte_Bad_c pte_Bad_p
/-- atlas/pte.Leaf -/
def pte_Leaf_ir : IR :=
  (.ite (.v 0)
  (.ite (.v 1)
  (.ret [(false, [(.c (.b true))])])
  (.ret [(false, [(.v 3)])]))
  (.ret [(false, [(.c (.b false))])]))
theorem pte_Leaf_c : compile envIrW 3000 36 = .ok pte_Leaf_ir := by kernel_rfl
theorem pte_Leaf_p : paramShape Tryd.prog 36 = some [(true, 11)] := by kernel_rfl
theorem pte_Leaf_k : Known gAll 36 (.ir [(true, 11)] pte_Leaf_ir) := known_ir (E := envIrW) (n := 3000) rfl rfl pte_Leaf_c pte_Leaf_p
/-- atlas/atlasref09.Fault -/
def atlasref09_Fault_ir : IR :=
  (.call 56 [(false, [(.v 0)]), (false, [(.v 1)])] [(false, 1)]
  (.ret [(true, [(.c (.b true)), (.v 3), (.v 2)])]))
theorem atlasref09_Fault_c : compile envIrW 3000 37 = .ok atlasref09_Fault_ir := by kernel_rfl
theorem atlasref09_Fault_p : paramShape Tryd.prog 37 = some [(false, 1), (false, 1), (false, 1)] := by kernel_rfl
theorem atlasref09_Fault_k : Known gAll 37 (.ir [(false, 1), (false, 1), (false, 1)] atlasref09_Fault_ir) := known_ir (E := envIrW) (n := 3000) rfl rfl atlasref09_Fault_c atlasref09_Fault_p
/-- atlas/atlasref10.down -/
def atlasref10_down_ir : IR :=
  (.lt (.bin .mul (.c (.i .u64 4096)) (.v 2)) (.call 57 [(false, [(.v 3)]), (false, [(.v 5)])] [(false, 1)]
  (.lt (.cv .u64 (.v 8)) (.lt (.bin .mul (.c (.i .u64 8)) (.v 9)) (.lt (.bin .add (.v 7) (.v 10)) (.lt (.bin .geq (.v 11) (.v 0)) (.ite (.v 12)
  (.call 37 [(false, [(.c (.i .i64 2))]), (false, [(.v 4)]), (false, [(.v 3)])] [(true, 3)]
  (.ret [(true, [(.c (.i .i64 0)), (.c (.i .u64 0)), (.c (.b false)), (.c (.b false)), (.c (.b false)), (.c (.b false)), (.c (.b false)), (.c (.b false)), (.c (.b false)), (.c (.b false)), (.c (.i .u64 0)), (.c (.i .u64 0)), (.c (.i .u64 0))]), (true, [(.v 13), (.v 14), (.v 15)])]))
  (.call 22 [(true, [(.v 0), (.v 1)]), (false, [(.v 11)])] [(false, 1)]
  (.call 58 [(false, [(.v 13)])] [(true, 11)]
  (.call 59 [(true, (vr 14 11)), (false, [(.v 5)])] [(false, 1)]
  (.ite (.v 25)
  (.call 37 [(false, [(.c (.i .i64 3))]), (false, [(.v 4)]), (false, [(.v 3)])] [(true, 3)]
  (.ret [(true, [(.c (.i .i64 0)), (.c (.i .u64 0)), (.c (.b false)), (.c (.b false)), (.c (.b false)), (.c (.b false)), (.c (.b false)), (.c (.b false)), (.c (.b false)), (.c (.b false)), (.c (.i .u64 0)), (.c (.i .u64 0)), (.c (.i .u64 0))]), (true, [(.v 26), (.v 27), (.v 28)])]))
  (.call 60 [(true, (vr 14 11))] [(false, 1)]
  (.ite (.v 26)
  (.lt (.bin .sub (.v 5) (.c (.i .i64 1))) (.ite (.v 6)
  (.call 38 [(true, [(.v 0), (.v 1)]), (false, [(.v 23)]), (false, [(.v 3)]), (false, [(.v 4)]), (false, [(.v 27)]), (false, [(.c (.b true))])] [(true, 13), (true, 3)]
  (.ret [(true, (vr 28 13)), (true, [(.v 41), (.v 42), (.v 43)])]))
  (.call 38 [(true, [(.v 0), (.v 1)]), (false, [(.v 23)]), (false, [(.v 3)]), (false, [(.v 4)]), (false, [(.v 27)]), (false, [(.v 19)])] [(true, 13), (true, 3)]
  (.ret [(true, (vr 28 13)), (true, [(.v 41), (.v 42), (.v 43)])]))))
  (.ite (.v 19)
  (.ret [(true, ([(.v 5), (.v 11)] ++ vr 14 5 ++ [(.c (.b true))] ++ vr 20 5)), (true, [(.c (.b false)), (.c (.i .i64 0)), (.c (.i .u64 0))])])
  (.ret [(true, ([(.v 5), (.v 11)] ++ vr 14 5 ++ [(.v 6)] ++ vr 20 5)), (true, [(.c (.b false)), (.c (.i .i64 0)), (.c (.i .u64 0))])])))))))))))))))
theorem atlasref10_down_c : compile envIrW 3000 38 = .ok atlasref10_down_ir := by kernel_rfl
theorem atlasref10_down_p : paramShape Tryd.prog 38 = some [(true, 2), (false, 1), (false, 1), (false, 1), (false, 1), (false, 1)] := by kernel_rfl
theorem atlasref10_down_k : Known gAll 38 (.ir [(true, 2), (false, 1), (false, 1), (false, 1), (false, 1), (false, 1)] atlasref10_down_ir) := known_ir (E := envIrW) (n := 3000) rfl rfl atlasref10_down_c atlasref10_down_p
/-- atlas/perm.Allows -/
def perm_Allows_ir : IR :=
  (.call 61 [(true, (vr 0 4)), (true, (vr 4 4))] [(false, 1)]
  (.ite (.v 8)
  (.chk (.rng (.v 4) 3) (.ite (.isk (.v 4) 0)
  (.call 100 [(true, (vr 0 4)), (true, (vr 4 4))] [(false, 1)]
  (.ret [(false, [(.v 9)])]))
  (.ite (.isk (.v 4) 1)
  (.call 101 [(true, (vr 0 4)), (true, (vr 4 4))] [(false, 1)]
  (.ret [(false, [(.v 9)])]))
  (.call 102 [(true, (vr 0 4)), (true, (vr 4 4))] [(false, 1)]
  (.ret [(false, [(.v 9)])])))))
  (.ret [(false, [(.c (.b false))])])))
theorem perm_Allows_c : compile envIrW 3000 41 = .ok perm_Allows_ir := by kernel_rfl
theorem perm_Allows_p : paramShape Tryd.prog 41 = some [(true, 4), (true, 4)] := by kernel_rfl
theorem perm_Allows_k : Known gAll 41 (.ir [(true, 4), (true, 4)] perm_Allows_ir) := known_ir (E := envIrW) (n := 3000) rfl rfl perm_Allows_c perm_Allows_p
/-- atlas/pte.Perm -/
def pte_Perm_ir : IR :=
  (.ret [(true, (vr 1 4))])
theorem pte_Perm_c : compile envIrW 3000 42 = .ok pte_Perm_ir := by kernel_rfl
theorem pte_Perm_p : paramShape Tryd.prog 42 = some [(true, 11)] := by kernel_rfl
theorem pte_Perm_k : Known gAll 42 (.ir [(true, 11)] pte_Perm_ir) := known_ir (E := envIrW) (n := 3000) rfl rfl pte_Perm_c pte_Perm_p
/-- atlas/pte.Put -/
def pte_Put_ir : IR :=
  (.call 63 [(true, (vr 0 11))] [(false, 1)]
  (.lt (.un .not (.v 11)) (.ite (.v 12)
  (.ret [(false, [(.c (.i .u64 0))]), (false, [(.c (.i .i64 1))])])
  (.call 64 [(false, [(.cat (.one [(.v 0)]) (.cat (.one [(.v 1)]) (.cat (.one [(.v 2)]) (.cat (.one [(.v 3)]) (.cat (.one [(.v 4)]) (.cat (.one [(.v 5)]) (.cat (.one [(.v 6)]) (.one [(.v 7)]))))))))])] [(false, 1)]
  (.chk (.eqt false (.v 13) (.v 13)) (.call 65 [(false, [(.v 13)]), (false, [(.c (.i .i64 8))]), (false, [(.c (.i .i64 2))]), (false, [(.v 8)])] [(false, 1)]
  (.call 65 [(false, [(.v 14)]), (false, [(.c (.i .i64 10))]), (false, [(.c (.i .i64 44))]), (false, [(.v 9)])] [(false, 1)]
  (.call 65 [(false, [(.v 15)]), (false, [(.c (.i .i64 54))]), (false, [(.c (.i .i64 10))]), (false, [(.v 10)])] [(false, 1)]
  (.ret [(false, [(.v 16)]), (false, [(.c (.i .i64 0))])])))))))))
theorem pte_Put_c : compile envIrW 3000 44 = .ok pte_Put_ir := by kernel_rfl
theorem pte_Put_p : paramShape Tryd.prog 44 = some [(true, 11)] := by kernel_rfl
theorem pte_Put_k : Known gAll 44 (.ir [(true, 11)] pte_Put_ir) := known_ir (E := envIrW) (n := 3000) rfl rfl pte_Put_c pte_Put_p
/-- atlas/pte.Get$1 -/
def pte_Get_1_ir : IR :=
  (.call 51 [(false, [(.v 1)]), (false, [(.v 0)]), (false, [(.c (.i .i64 1))])] [(false, 1)]
  (.lt (.bin .eql (.v 2) (.c (.i .u64 1))) (.ret [(false, [(.v 3)])])))
theorem pte_Get_1_c : compileK envIrW 3000 52 [1] = .ok pte_Get_1_ir := by kernel_rfl
theorem pte_Get_1_p : paramShape Tryd.prog 52 = some [(false, 1)] := by kernel_rfl
theorem pte_Get_1_k : Known gAll (capOff + 52) (.irK [(false, 1)] [1] pte_Get_1_ir) := known_irK (E := envIrW) (n := 3000) rfl rfl pte_Get_1_c pte_Get_1_p
/-- atlas/pte.Link -/
def pte_Link_ir : IR :=
  (.ite (.v 0)
  (.lt (.un .not (.v 1)) (.ite (.v 11)
  (.lt (.un .not (.v 3)) (.ret [(false, [(.v 12)])]))
  (.ret [(false, [(.c (.b false))])])))
  (.ret [(false, [(.c (.b false))])]))
theorem pte_Link_c : compile envIrW 3000 53 = .ok pte_Link_ir := by kernel_rfl
theorem pte_Link_p : paramShape Tryd.prog 53 = some [(true, 11)] := by kernel_rfl
theorem pte_Link_k : Known gAll 53 (.ir [(true, 11)] pte_Link_ir) := known_ir (E := envIrW) (n := 3000) rfl rfl pte_Link_c pte_Link_p
/-- atlas/atlasref09.Number -/
def atlasref09_Number_ir : IR :=
  (.lt (.bin .eql (.v 0) (.c (.i .i64 3))) (.ite (.v 2)
  (.chk (.inb (.cat (.one [(.c (.i .i64 12))]) (.cat (.one [(.c (.i .i64 13))]) (.one [(.c (.i .i64 15))]))) (.v 1) 1) (.chk (.inb (.cat (.one [(.c (.i .i64 12))]) (.cat (.one [(.c (.i .i64 13))]) (.one [(.c (.i .i64 15))]))) (.v 1) 1) (.ret [(false, [(.idx (.cat (.one [(.c (.i .i64 12))]) (.cat (.one [(.c (.i .i64 13))]) (.one [(.c (.i .i64 15))]))) (.v 1) 0)])])))
  (.chk (.inb (.cat (.one [(.c (.i .i64 0))]) (.cat (.one [(.c (.i .i64 4))]) (.one [(.c (.i .i64 6))]))) (.v 1) 1) (.chk (.inb (.cat (.one [(.c (.i .i64 0))]) (.cat (.one [(.c (.i .i64 4))]) (.one [(.c (.i .i64 6))]))) (.v 1) 1) (.lt (.bin .add (.idx (.cat (.one [(.c (.i .i64 0))]) (.cat (.one [(.c (.i .i64 4))]) (.one [(.c (.i .i64 6))]))) (.v 1) 0) (.v 0)) (.lt (.bin .sub (.v 3) (.c (.i .i64 1))) (.ret [(false, [(.v 4)])])))))))
theorem atlasref09_Number_c : compile envIrW 3000 56 = .ok atlasref09_Number_ir := by kernel_rfl
theorem atlasref09_Number_p : paramShape Tryd.prog 56 = some [(false, 1), (false, 1)] := by kernel_rfl
theorem atlasref09_Number_k : Known gAll 56 (.ir [(false, 1), (false, 1)] atlasref09_Number_ir) := known_ir (E := envIrW) (n := 3000) rfl rfl atlasref09_Number_c atlasref09_Number_p
/-- atlas/atlasref06.Get -/
def atlasref06_Get_ir : IR :=
  (.call 69 [(false, [(.v 0)]), (false, [(.c (.i .i64 0))])] [(false, 1)]
  (.call 69 [(false, [(.v 0)]), (false, [(.c (.i .i64 1))])] [(false, 1)]
  (.call 69 [(false, [(.v 0)]), (false, [(.c (.i .i64 2))])] [(false, 1)]
  (.call 69 [(false, [(.v 0)]), (false, [(.c (.i .i64 3))])] [(false, 1)]
  (.call 69 [(false, [(.v 0)]), (false, [(.c (.i .i64 4))])] [(false, 1)]
  (.call 69 [(false, [(.v 0)]), (false, [(.c (.i .i64 5))])] [(false, 1)]
  (.call 69 [(false, [(.v 0)]), (false, [(.c (.i .i64 6))])] [(false, 1)]
  (.call 69 [(false, [(.v 0)]), (false, [(.c (.i .i64 7))])] [(false, 1)]
  (.lt (.bin .quo (.v 0) (.c (.i .u64 256))) (.lt (.bin .rem (.v 9) (.c (.i .u64 4))) (.lt (.bin .quo (.v 0) (.c (.i .u64 1024))) (.lt (.bin .rem (.v 11) (.c (.i .u64 17592186044416))) (.lt (.bin .quo (.v 0) (.c (.i .u64 18014398509481984))) (.ret [(true, (vr 1 8 ++ [(.v 10), (.v 12), (.v 13)]))]))))))))))))))
theorem atlasref06_Get_c : compile envIrW 3000 58 = .ok atlasref06_Get_ir := by kernel_rfl
theorem atlasref06_Get_p : paramShape Tryd.prog 58 = some [(false, 1)] := by kernel_rfl
theorem atlasref06_Get_k : Known gAll 58 (.ir [(false, 1)] atlasref06_Get_ir) := known_ir (E := envIrW) (n := 3000) rfl rfl atlasref06_Get_c atlasref06_Get_p
/-- atlas/atlasref06.Bad -/
def atlasref06_Bad_ir : IR :=
  (.lt (.un .not (.v 0)) (.ite (.v 12)
  (.ret [(false, [(.c (.b true))])])
  (.ite (.v 2)
  (.lt (.un .not (.v 1)) (.ite (.v 13)
  (.ret [(false, [(.c (.b true))])])
  (.lt (.bin .gtr (.v 10) (.c (.i .u64 0))) (.ite (.v 14)
  (.ret [(false, [(.c (.b true))])])
  (.lt (.un .not (.v 1)) (.ite (.v 15)
  (.lt (.un .not (.v 3)) (.ite (.v 16)
  (.lt (.bin .eql (.v 11) (.c (.i .i64 0))) (.ite (.v 17)
  (.ret [(false, [(.c (.b true))])])
  (.ite (.v 6)
  (.ret [(false, [(.c (.b true))])])
  (.ite (.v 7)
  (.ret [(false, [(.c (.b true))])])
  (.ret [(false, [(.v 4)])])))))
  (.lt (.bin .eql (.v 11) (.c (.i .i64 1))) (.ite (.v 17)
  (.lt (.bin .rem (.v 9) (.c (.i .u64 512))) (.lt (.bin .gtr (.v 18) (.c (.i .u64 0))) (.ret [(false, [(.v 19)])])))
  (.lt (.bin .eql (.v 11) (.c (.i .i64 2))) (.ite (.v 18)
  (.lt (.bin .rem (.v 9) (.c (.i .u64 262144))) (.lt (.bin .gtr (.v 19) (.c (.i .u64 0))) (.ret [(false, [(.v 20)])])))
  (.ret [(false, [(.c (.b false))])])))))))
  (.lt (.bin .eql (.v 11) (.c (.i .i64 1))) (.ite (.v 16)
  (.lt (.bin .rem (.v 9) (.c (.i .u64 512))) (.lt (.bin .gtr (.v 17) (.c (.i .u64 0))) (.ret [(false, [(.v 18)])])))
  (.lt (.bin .eql (.v 11) (.c (.i .i64 2))) (.ite (.v 17)
  (.lt (.bin .rem (.v 9) (.c (.i .u64 262144))) (.lt (.bin .gtr (.v 18) (.c (.i .u64 0))) (.ret [(false, [(.v 19)])])))
  (.ret [(false, [(.c (.b false))])])))))))))))
  (.lt (.bin .gtr (.v 10) (.c (.i .u64 0))) (.ite (.v 13)
  (.ret [(false, [(.c (.b true))])])
  (.lt (.un .not (.v 1)) (.ite (.v 14)
  (.lt (.un .not (.v 3)) (.ite (.v 15)
  (.lt (.bin .eql (.v 11) (.c (.i .i64 0))) (.ite (.v 16)
  (.ret [(false, [(.c (.b true))])])
  (.ite (.v 6)
  (.ret [(false, [(.c (.b true))])])
  (.ite (.v 7)
  (.ret [(false, [(.c (.b true))])])
  (.ret [(false, [(.v 4)])])))))
  (.lt (.bin .eql (.v 11) (.c (.i .i64 1))) (.ite (.v 16)
  (.lt (.bin .rem (.v 9) (.c (.i .u64 512))) (.lt (.bin .gtr (.v 17) (.c (.i .u64 0))) (.ret [(false, [(.v 18)])])))
  (.lt (.bin .eql (.v 11) (.c (.i .i64 2))) (.ite (.v 17)
  (.lt (.bin .rem (.v 9) (.c (.i .u64 262144))) (.lt (.bin .gtr (.v 18) (.c (.i .u64 0))) (.ret [(false, [(.v 19)])])))
  (.ret [(false, [(.c (.b false))])])))))))
  (.lt (.bin .eql (.v 11) (.c (.i .i64 1))) (.ite (.v 15)
  (.lt (.bin .rem (.v 9) (.c (.i .u64 512))) (.lt (.bin .gtr (.v 16) (.c (.i .u64 0))) (.ret [(false, [(.v 17)])])))
  (.lt (.bin .eql (.v 11) (.c (.i .i64 2))) (.ite (.v 16)
  (.lt (.bin .rem (.v 9) (.c (.i .u64 262144))) (.lt (.bin .gtr (.v 17) (.c (.i .u64 0))) (.ret [(false, [(.v 18)])])))
  (.ret [(false, [(.c (.b false))])]))))))))))))
theorem atlasref06_Bad_c : compile envIrW 3000 59 = .ok atlasref06_Bad_ir := by kernel_rfl
theorem atlasref06_Bad_p : paramShape Tryd.prog 59 = some [(true, 11), (false, 1)] := by kernel_rfl
theorem atlasref06_Bad_k : Known gAll 59 (.ir [(true, 11), (false, 1)] atlasref06_Bad_ir) := known_ir (E := envIrW) (n := 3000) rfl rfl atlasref06_Bad_c atlasref06_Bad_p
/-- atlas/atlasref06.Link -/
def atlasref06_Link_ir : IR :=
  (.ite (.v 0)
  (.call 70 [(true, (vr 0 11))] [(false, 1)]
  (.lt (.un .not (.v 11)) (.ret [(false, [(.v 12)])])))
  (.ret [(false, [(.c (.b false))])]))
theorem atlasref06_Link_c : compile envIrW 3000 60 = .ok atlasref06_Link_ir := by kernel_rfl
theorem atlasref06_Link_p : paramShape Tryd.prog 60 = some [(true, 11)] := by kernel_rfl
theorem atlasref06_Link_k : Known gAll 60 (.ir [(true, 11)] atlasref06_Link_ir) := known_ir (E := envIrW) (n := 3000) rfl rfl atlasref06_Link_c atlasref06_Link_p
/-- atlas/perm.reaches -/
def perm_reaches_ir : IR :=
  (.lt (.bin .eql (.v 5) (.c (.i .i64 0))) (.ite (.v 8)
  (.lt (.bin .eql (.v 5) (.c (.i .i64 0))) (.lt (.eqt true (.v 9) (.v 3)) (.ret [(false, [(.v 10)])])))
  (.lt (.un .not (.v 3)) (.ite (.v 9)
  (.lt (.bin .eql (.v 5) (.c (.i .i64 0))) (.lt (.eqt true (.v 10) (.v 3)) (.ret [(false, [(.v 11)])])))
  (.lt (.bin .neq (.v 4) (.c (.i .i64 0))) (.ite (.v 10)
  (.ret [(false, [(.v 6)])])
  (.ret [(false, [(.c (.b false))])])))))))
theorem perm_reaches_c : compile envIrW 3000 61 = .ok perm_reaches_ir := by kernel_rfl
theorem perm_reaches_p : paramShape Tryd.prog 61 = some [(true, 4), (true, 4)] := by kernel_rfl
theorem perm_reaches_k : Known gAll 61 (.ir [(true, 4), (true, 4)] perm_reaches_ir) := known_ir (E := envIrW) (n := 3000) rfl rfl perm_reaches_c perm_reaches_p
/-- atlas/pte.May -/
def pte_May_ir : IR :=
  (.call 51 [(false, [(.v 8)]), (false, [(.c (.i .i64 0))]), (false, [(.c (.i .i64 2))])] [(false, 1)]
  (.lt (.bin .eql (.v 11) (.v 8)) (.ite (.v 12)
  (.call 51 [(false, [(.v 9)]), (false, [(.c (.i .i64 0))]), (false, [(.c (.i .i64 44))])] [(false, 1)]
  (.lt (.bin .eql (.v 13) (.v 9)) (.ite (.v 14)
  (.call 51 [(false, [(.v 10)]), (false, [(.c (.i .i64 0))]), (false, [(.c (.i .i64 10))])] [(false, 1)]
  (.lt (.bin .eql (.v 15) (.v 10)) (.ret [(false, [(.v 16)])])))
  (.ret [(false, [(.c (.b false))])]))))
  (.ret [(false, [(.c (.b false))])]))))
theorem pte_May_c : compile envIrW 3000 63 = .ok pte_May_ir := by kernel_rfl
theorem pte_May_p : paramShape Tryd.prog 63 = some [(true, 11)] := by kernel_rfl
theorem pte_May_k : Known gAll 63 (.ir [(true, 11)] pte_May_ir) := known_ir (E := envIrW) (n := 3000) rfl rfl pte_May_c pte_May_p
/-- atlas/pte.row -/
def pte_row_ir : IR :=
  (.lt (.len (.v 0)) (.loop [(.c (.i .u64 0)), (.c (.i .i64 0))]
  (.lt (.bin .lss (.v 3) (.v 1)) (.ite (.v 4)
  (.chk (.inb (.v 0) (.v 3) 1) (.call 75 [(false, [(.idx (.v 0) (.v 3) 0)])] [(false, 1)]
  (.call 65 [(false, [(.v 2)]), (false, [(.v 3)]), (false, [(.c (.i .i64 1))]), (false, [(.v 5)])] [(false, 1)]
  (.lt (.bin .add (.v 3) (.c (.i .i64 1))) (.cont 0 [(.v 6), (.v 7)])))))
  (.ret [(false, [(.v 2)])])))))
theorem pte_row_c : compile envIrW 3000 64 = .ok pte_row_ir := by kernel_rfl
theorem pte_row_p : paramShape Tryd.prog 64 = some [(false, 1)] := by kernel_rfl
theorem pte_row_k : Known gAll 64 (.ir [(false, 1)] pte_row_ir) := known_ir (E := envIrW) (n := 3000) rfl rfl pte_row_c pte_row_p
/-- atlas/atlasref06.Leaf -/
def atlasref06_Leaf_ir : IR :=
  (.ite (.v 0)
  (.ite (.v 1)
  (.ret [(false, [(.c (.b true))])])
  (.ite (.v 0)
  (.ret [(false, [(.v 3)])])
  (.ret [(false, [(.c (.b false))])])))
  (.ite (.v 0)
  (.ret [(false, [(.v 3)])])
  (.ret [(false, [(.c (.b false))])])))
theorem atlasref06_Leaf_c : compile envIrW 3000 70 = .ok atlasref06_Leaf_ir := by kernel_rfl
theorem atlasref06_Leaf_p : paramShape Tryd.prog 70 = some [(true, 11)] := by kernel_rfl
theorem atlasref06_Leaf_k : Known gAll 70 (.ir [(true, 11)] atlasref06_Leaf_ir) := known_ir (E := envIrW) (n := 3000) rfl rfl atlasref06_Leaf_c atlasref06_Leaf_p
/-- atlas/perm.asks$1 -/
def perm_asks_1_ir : IR :=
  (.ret [(false, [(.v 2)])])
theorem perm_asks_1_c : compile envIrW 3000 100 = .ok perm_asks_1_ir := by kernel_rfl
theorem perm_asks_1_p : paramShape Tryd.prog 100 = some [(true, 4), (true, 4)] := by kernel_rfl
theorem perm_asks_1_k : Known gAll 100 (.ir [(true, 4), (true, 4)] perm_asks_1_ir) := known_ir (E := envIrW) (n := 3000) rfl rfl perm_asks_1_c perm_asks_1_p
/-- atlas/perm.asks$2 -/
def perm_asks_2_ir : IR :=
  (.ite (.v 0)
  (.ret [(false, [(.c (.b true))])])
  (.ite (.v 2)
  (.ret [(false, [(.v 7)])])
  (.ret [(false, [(.c (.b false))])])))
theorem perm_asks_2_c : compile envIrW 3000 101 = .ok perm_asks_2_ir := by kernel_rfl
theorem perm_asks_2_p : paramShape Tryd.prog 101 = some [(true, 4), (true, 4)] := by kernel_rfl
theorem perm_asks_2_k : Known gAll 101 (.ir [(true, 4), (true, 4)] perm_asks_2_ir) := known_ir (E := envIrW) (n := 3000) rfl rfl perm_asks_2_c perm_asks_2_p
/-- atlas/perm.asks$3 -/
def perm_asks_3_ir : IR :=
  (.ret [(false, [(.v 1)])])
theorem perm_asks_3_c : compile envIrW 3000 102 = .ok perm_asks_3_ir := by kernel_rfl
theorem perm_asks_3_p : paramShape Tryd.prog 102 = some [(true, 4), (true, 4)] := by kernel_rfl
theorem perm_asks_3_k : Known gAll 102 (.ir [(true, 4), (true, 4)] perm_asks_3_ir) := known_ir (E := envIrW) (n := 3000) rfl rfl perm_asks_3_c perm_asks_3_p
def TIrW : Tbl :=
  (10, .ir [(true, 2), (false, 1)] atlaslaw10_fits_ir) ::
  (11, .ir [(true, 2), (false, 1), (false, 1), (false, 1)] walk_Look_ir) ::
  (12, .ir [(true, 2), (false, 1), (false, 1), (false, 1)] atlasref10_Look_ir) ::
  (13, .ir [(true, 13), (false, 1)] walk_Physical_ir) ::
  (14, .ir [(true, 13), (false, 1)] atlasref10_Physical_ir) ::
  (15, .ir [(true, 4)] atlasref08_Is_ir) ::
  (16, .ir [(true, 2), (false, 1), (false, 1), (true, 4)] walk_Walk_ir) ::
  (17, .ir [(true, 2), (false, 1), (false, 1), (true, 4)] atlasref10_Walk_ir) ::
  (19, .ir [(true, 2), (true, 13), (false, 1)] walk_Mark_ir) ::
  (20, .ir [(true, 2), (true, 13), (false, 1)] atlasref10_Mark_ir) ::
  (23, .ir [(true, 4), (true, 4)] atlasref08_Allows_ir) ::
  (24, .ir [(true, 11)] atlasref06_Perm_ir) ::
  (30, .ir [(false, 1), (false, 1)] cause_Page_ir) ::
  (31, .ir [(false, 1), (false, 1), (false, 1)] walk_slot_ir) ::
  (33, .ir [(false, 1), (false, 1)] cause_Access_ir) ::
  (34, .ir [(false, 1)] pte_Get_ir) ::
  (35, .ir [(true, 11), (false, 1)] pte_Bad_ir) ::
  (36, .ir [(true, 11)] pte_Leaf_ir) ::
  (37, .ir [(false, 1), (false, 1), (false, 1)] atlasref09_Fault_ir) ::
  (38, .ir [(true, 2), (false, 1), (false, 1), (false, 1), (false, 1), (false, 1)] atlasref10_down_ir) ::
  (41, .ir [(true, 4), (true, 4)] perm_Allows_ir) ::
  (42, .ir [(true, 11)] pte_Perm_ir) ::
  (44, .ir [(true, 11)] pte_Put_ir) ::
  (capOff + 52, .irK [(false, 1)] [1] pte_Get_1_ir) ::
  (53, .ir [(true, 11)] pte_Link_ir) ::
  (56, .ir [(false, 1), (false, 1)] atlasref09_Number_ir) ::
  (58, .ir [(false, 1)] atlasref06_Get_ir) ::
  (59, .ir [(true, 11), (false, 1)] atlasref06_Bad_ir) ::
  (60, .ir [(true, 11)] atlasref06_Link_ir) ::
  (61, .ir [(true, 4), (true, 4)] perm_reaches_ir) ::
  (63, .ir [(true, 11)] pte_May_ir) ::
  (64, .ir [(false, 1)] pte_row_ir) ::
  (70, .ir [(true, 11)] atlasref06_Leaf_ir) ::
  (100, .ir [(true, 4), (true, 4)] perm_asks_1_ir) ::
  (101, .ir [(true, 4), (true, 4)] perm_asks_2_ir) ::
  (102, .ir [(true, 4), (true, 4)] perm_asks_3_ir) ::
  []
theorem TIrW_ok : ∀ x ∈ TIrW, Known gAll x.1 x.2 :=
  kcons atlaslaw10_fits_k <|
  kcons walk_Look_k <|
  kcons atlasref10_Look_k <|
  kcons walk_Physical_k <|
  kcons atlasref10_Physical_k <|
  kcons atlasref08_Is_k <|
  kcons walk_Walk_k <|
  kcons atlasref10_Walk_k <|
  kcons walk_Mark_k <|
  kcons atlasref10_Mark_k <|
  kcons atlasref08_Allows_k <|
  kcons atlasref06_Perm_k <|
  kcons cause_Page_k <|
  kcons walk_slot_k <|
  kcons cause_Access_k <|
  kcons pte_Get_k <|
  kcons pte_Bad_k <|
  kcons pte_Leaf_k <|
  kcons atlasref09_Fault_k <|
  kcons atlasref10_down_k <|
  kcons perm_Allows_k <|
  kcons pte_Perm_k <|
  kcons pte_Put_k <|
  kcons pte_Get_1_k <|
  kcons pte_Link_k <|
  kcons atlasref09_Number_k <|
  kcons atlasref06_Get_k <|
  kcons atlasref06_Bad_k <|
  kcons atlasref06_Link_k <|
  kcons perm_reaches_k <|
  kcons pte_May_k <|
  kcons pte_row_k <|
  kcons atlasref06_Leaf_k <|
  kcons perm_asks_1_k <|
  kcons perm_asks_2_k <|
  kcons perm_asks_3_k <|
  fun _ h => nomatch h
end Go.Proofs.YthegeidecapfaaaDoor.Sx
