/-
  IRs of functions, printed by a program of mine (wip/tools/mkir.sh, ev.lean.txt); each is checked by the kernel against the executor.
-/
import Derived.Test.YtlijmagfmkfdoaaDoorRun
import Derived.Test.YtlijmagfmkfdoaaDoorProg
namespace Go.Proofs.YtlijmagfmkfdoaaDoor.Sx
open Go
set_option maxRecDepth 100000
noncomputable def envIrPlru : Env := { P := Tryd.prog, G := gPlru, inl := [], unr := [5] }

/-- atlas/atlaslaw11.PlruTrees -/
def atlaslaw11_PlruTrees_ir : IR :=
  (.call 7 [] [(false, 1)]
  (.lt (.un .not (.v 2)) (.ite (.v 3)
  (.ret [(false, [(.c (.b false))])])
  (.call 8 [(false, [(.v 0)])] [(false, 1)]
  (.lt (.bin .lss (.v 0) (.c (.i .u8 8))) (.lt (.un .not (.eqt true (.v 4) (.v 5))) (.ite (.v 6)
  (.ret [(false, [(.c (.b false))])])
  (.lt (.bin .rem (.v 0) (.c (.i .u8 8))) (.call 9 [(false, [(.v 7)])] [(false, 1)]
  (.call 10 [(false, [(.v 7)])] [(false, 1)]
  (.lt (.bin .eql (.v 8) (.v 9)) (.ite (.v 10)
  (.lt (.bin .rem (.v 1) (.c (.i .u8 4))) (.lt (.cv .i64 (.v 11)) (.call 11 [(false, [(.v 7)]), (false, [(.v 12)])] [(false, 1)]
  (.lt (.bin .rem (.v 1) (.c (.i .u8 4))) (.lt (.cv .i64 (.v 14)) (.call 12 [(false, [(.v 7)]), (false, [(.v 15)])] [(false, 1)]
  (.lt (.bin .eql (.v 13) (.v 16)) (.ret [(false, [(.v 17)])]))))))))
  (.ret [(false, [(.c (.b false))])])))))))))))))
theorem atlaslaw11_PlruTrees_c : compile envIrPlru 3000 3 = .ok atlaslaw11_PlruTrees_ir := by kernel_rfl
theorem atlaslaw11_PlruTrees_p : paramShape Tryd.prog 3 = some [(false, 1), (false, 1)] := by kernel_rfl
theorem atlaslaw11_PlruTrees_k : Known gPlru 3 [(false, 1), (false, 1)] atlaslaw11_PlruTrees_ir := ⟨envIrPlru, 3000, rfl, rfl, atlaslaw11_PlruTrees_c, atlaslaw11_PlruTrees_p⟩
/-- atlas/atlaslaw11.PlruAway -/
def atlaslaw11_PlruAway_ir : IR :=
  (.call 7 [] [(false, 1)]
  (.lt (.un .not (.v 2)) (.ite (.v 3)
  (.call 7 [] [(false, 1)]
  (.ret [(false, [(.v 4)])]))
  (.lt (.len (.v 1)) (.lt (.bin .gtr (.v 4) (.c (.i .i64 200))) (.ite (.v 5)
  (.call 7 [] [(false, 1)]
  (.ret [(false, [(.v 6)])]))
  (.lt (.bin .rem (.v 0) (.c (.i .u8 8))) (.loop [(.c (.b false)), (.v 6), (.c (.i .i64 0)), (.c (.i .i64 (-1))), (.c (.i .i64 (-1)))]
  (.lt (.len (.v 1)) (.lt (.bin .lss (.v 9) (.v 12)) (.ite (.v 13)
  (.chk (.inb (.v 1) (.v 9) 1) (.lt (.bin .rem (.idx (.v 1) (.v 9) 0) (.c (.i .u8 4))) (.lt (.cv .i64 (.v 14)) (.call 11 [(false, [(.v 8)]), (false, [(.v 15)])] [(false, 1)]
  (.lt (.bin .quo (.v 15) (.c (.i .i64 2))) (.chk (.rng (.v 17) 2) (.call 9 [(false, [(.v 16)])] [(false, 1)]
  (.call 8 [(false, [(.v 16)])] [(false, 1)]
  (.lt (.un .not (.v 19)) (.ite (.v 20)
  (.ret [(false, [(.c (.b false))])])
  (.lt (.bin .lss (.v 18) (.c (.i .i64 0))) (.ite (.v 21)
  (.ret [(false, [(.c (.b false))])])
  (.lt (.bin .gtr (.v 18) (.c (.i .i64 3))) (.ite (.v 22)
  (.ret [(false, [(.c (.b false))])])
  (.lt (.bin .quo (.v 18) (.c (.i .i64 2))) (.lt (.bin .quo (.v 15) (.c (.i .i64 2))) (.lt (.bin .eql (.v 23) (.v 24)) (.ite (.v 25)
  (.ret [(false, [(.c (.b false))])])
  (.lt (.bin .quo (.v 18) (.c (.i .i64 2))) (.chk (.rng (.v 26) 2) (.lt (.bin .eql (.v 18) (.ite (.isk (.v 26) 0) (.ite (.isk (.v 17) 0) (.v 15) (.v 10)) (.ite (.isk (.v 17) 1) (.v 15) (.v 11)))) (.ite (.v 27)
  (.ret [(false, [(.c (.b false))])])
  (.call 11 [(false, [(.v 16)]), (false, [(.v 15)])] [(false, 1)]
  (.lt (.bin .neq (.v 28) (.v 16)) (.ite (.v 29)
  (.ret [(false, [(.c (.b false))])])
  (.lt (.bin .add (.v 9) (.c (.i .i64 1))) (.cont 0 [(.v 7), (.v 16), (.v 30), (.ite (.isk (.v 17) 0) (.v 15) (.v 10)), (.ite (.isk (.v 17) 1) (.v 15) (.v 11))])))))))))))))))))))))))))))
  (.ret [(false, [(.c (.b true))])]))))))))))))
theorem atlaslaw11_PlruAway_c : compile envIrPlru 3000 4 = .ok atlaslaw11_PlruAway_ir := by kernel_rfl
theorem atlaslaw11_PlruAway_p : paramShape Tryd.prog 4 = some [(false, 1), (false, 1)] := by kernel_rfl
theorem atlaslaw11_PlruAway_k : Known gPlru 4 [(false, 1), (false, 1)] atlaslaw11_PlruAway_ir := ⟨envIrPlru, 3000, rfl, rfl, atlaslaw11_PlruAway_c, atlaslaw11_PlruAway_p⟩
/-- atlas/atlaslaw11.PlruAll -/
def atlaslaw11_PlruAll_ir : IR :=
  (.call 7 [] [(false, 1)]
  (.lt (.un .not (.v 1)) (.ite (.v 2)
  (.ret [(false, [(.c (.b false))])])
  (.lt (.bin .rem (.v 0) (.c (.i .u8 8))) (.call 9 [(false, [(.v 3)])] [(false, 1)]
  (.lt (.bin .lss (.v 4) (.c (.i .i64 0))) (.ite (.v 5)
  (.ret [(false, [(.c (.b false))])])
  (.lt (.bin .gtr (.v 4) (.c (.i .i64 3))) (.ite (.v 6)
  (.ret [(false, [(.c (.b false))])])
  (.chk (.rng (.v 4) 4) (.ite (.ite (.isk (.v 4) 0) (.c (.b false)) (.ite (.isk (.v 4) 1) (.c (.b false)) (.ite (.isk (.v 4) 2) (.c (.b false)) (.c (.b false)))))
  (.ret [(false, [(.c (.b false))])])
  (.chk (.rng (.v 4) 4) (.call 11 [(false, [(.v 3)]), (false, [(.v 4)])] [(false, 1)]
  (.call 9 [(false, [(.v 7)])] [(false, 1)]
  (.lt (.bin .lss (.v 8) (.c (.i .i64 0))) (.ite (.v 9)
  (.ret [(false, [(.c (.b false))])])
  (.lt (.bin .gtr (.v 8) (.c (.i .i64 3))) (.ite (.v 10)
  (.ret [(false, [(.c (.b false))])])
  (.chk (.rng (.v 8) 4) (.ite (.ite (.isk (.v 8) 0) (.ite (.isk (.v 4) 0) (.c (.b true)) (.c (.b false))) (.ite (.isk (.v 8) 1) (.ite (.isk (.v 4) 1) (.c (.b true)) (.c (.b false))) (.ite (.isk (.v 8) 2) (.ite (.isk (.v 4) 2) (.c (.b true)) (.c (.b false))) (.ite (.isk (.v 4) 3) (.c (.b true)) (.c (.b false))))))
  (.ret [(false, [(.c (.b false))])])
  (.chk (.rng (.v 8) 4) (.call 11 [(false, [(.v 7)]), (false, [(.v 8)])] [(false, 1)]
  (.call 9 [(false, [(.v 11)])] [(false, 1)]
  (.lt (.bin .lss (.v 12) (.c (.i .i64 0))) (.ite (.v 13)
  (.ret [(false, [(.c (.b false))])])
  (.lt (.bin .gtr (.v 12) (.c (.i .i64 3))) (.ite (.v 14)
  (.ret [(false, [(.c (.b false))])])
  (.chk (.rng (.v 12) 4) (.ite (.ite (.isk (.v 12) 0) (.ite (.isk (.v 8) 0) (.c (.b true)) (.ite (.isk (.v 4) 0) (.c (.b true)) (.c (.b false)))) (.ite (.isk (.v 12) 1) (.ite (.isk (.v 8) 1) (.c (.b true)) (.ite (.isk (.v 4) 1) (.c (.b true)) (.c (.b false)))) (.ite (.isk (.v 12) 2) (.ite (.isk (.v 8) 2) (.c (.b true)) (.ite (.isk (.v 4) 2) (.c (.b true)) (.c (.b false)))) (.ite (.isk (.v 8) 3) (.c (.b true)) (.ite (.isk (.v 4) 3) (.c (.b true)) (.c (.b false)))))))
  (.ret [(false, [(.c (.b false))])])
  (.chk (.rng (.v 12) 4) (.call 11 [(false, [(.v 11)]), (false, [(.v 12)])] [(false, 1)]
  (.call 9 [(false, [(.v 15)])] [(false, 1)]
  (.lt (.bin .lss (.v 16) (.c (.i .i64 0))) (.ite (.v 17)
  (.ret [(false, [(.c (.b false))])])
  (.lt (.bin .gtr (.v 16) (.c (.i .i64 3))) (.ite (.v 18)
  (.ret [(false, [(.c (.b false))])])
  (.chk (.rng (.v 16) 4) (.ite (.ite (.isk (.v 16) 0) (.ite (.isk (.v 12) 0) (.c (.b true)) (.ite (.isk (.v 8) 0) (.c (.b true)) (.ite (.isk (.v 4) 0) (.c (.b true)) (.c (.b false))))) (.ite (.isk (.v 16) 1) (.ite (.isk (.v 12) 1) (.c (.b true)) (.ite (.isk (.v 8) 1) (.c (.b true)) (.ite (.isk (.v 4) 1) (.c (.b true)) (.c (.b false))))) (.ite (.isk (.v 16) 2) (.ite (.isk (.v 12) 2) (.c (.b true)) (.ite (.isk (.v 8) 2) (.c (.b true)) (.ite (.isk (.v 4) 2) (.c (.b true)) (.c (.b false))))) (.ite (.isk (.v 12) 3) (.c (.b true)) (.ite (.isk (.v 8) 3) (.c (.b true)) (.ite (.isk (.v 4) 3) (.c (.b true)) (.c (.b false))))))))
  (.ret [(false, [(.c (.b false))])])
  (.chk (.rng (.v 16) 4) (.call 11 [(false, [(.v 15)]), (false, [(.v 16)])] [(false, 1)]
  (.lt (.bin .rem (.v 0) (.c (.i .u8 8))) (.lt (.bin .eql (.v 19) (.v 20)) (.ret [(false, [(.v 21)])])))))))))))))))))))))))))))))))))))))))))))
theorem atlaslaw11_PlruAll_c : compile envIrPlru 3000 5 = .ok atlaslaw11_PlruAll_ir := by kernel_rfl
theorem atlaslaw11_PlruAll_p : paramShape Tryd.prog 5 = some [(false, 1)] := by kernel_rfl
theorem atlaslaw11_PlruAll_k : Known gPlru 5 [(false, 1)] atlaslaw11_PlruAll_ir := ⟨envIrPlru, 3000, rfl, rfl, atlaslaw11_PlruAll_c, atlaslaw11_PlruAll_p⟩
/-- atlas/atlaslaw11.PlruPair -/
def atlaslaw11_PlruPair_ir : IR :=
  (.call 7 [] [(false, 1)]
  (.lt (.un .not (.v 3)) (.ite (.v 4)
  (.ret [(false, [(.c (.b false))])])
  (.lt (.bin .rem (.v 0) (.c (.i .u8 8))) (.lt (.bin .rem (.v 1) (.c (.i .u8 4))) (.lt (.cv .i64 (.v 6)) (.call 11 [(false, [(.v 5)]), (false, [(.v 7)])] [(false, 1)]
  (.call 9 [(false, [(.v 8)])] [(false, 1)]
  (.lt (.bin .quo (.v 9) (.c (.i .i64 2))) (.lt (.bin .quo (.v 7) (.c (.i .i64 2))) (.lt (.bin .eql (.v 10) (.v 11)) (.ite (.v 12)
  (.ret [(false, [(.c (.b false))])])
  (.lt (.bin .rem (.v 2) (.c (.i .u8 2))) (.lt (.cv .i64 (.v 13)) (.lt (.bin .quo (.v 7) (.c (.i .i64 2))) (.lt (.bin .mul (.v 15) (.c (.i .i64 2))) (.lt (.bin .add (.v 14) (.v 16)) (.call 11 [(false, [(.v 8)]), (false, [(.v 17)])] [(false, 1)]
  (.call 11 [(false, [(.v 18)]), (false, [(.v 7)])] [(false, 1)]
  (.call 9 [(false, [(.v 19)])] [(false, 1)]
  (.lt (.bin .eql (.v 20) (.v 9)) (.ret [(false, [(.v 21)])]))))))))))))))))))))))
theorem atlaslaw11_PlruPair_c : compile envIrPlru 3000 6 = .ok atlaslaw11_PlruPair_ir := by kernel_rfl
theorem atlaslaw11_PlruPair_p : paramShape Tryd.prog 6 = some [(false, 1), (false, 1), (false, 1)] := by kernel_rfl
theorem atlaslaw11_PlruPair_k : Known gPlru 6 [(false, 1), (false, 1), (false, 1)] atlaslaw11_PlruPair_ir := ⟨envIrPlru, 3000, rfl, rfl, atlaslaw11_PlruPair_c, atlaslaw11_PlruPair_p⟩
/-- atlas/atlaslaw11.awake -/
def atlaslaw11_awake_ir : IR :=
  (.call 9 [(false, [(.c (.i .u8 0))])] [(false, 1)]
  (.lt (.bin .eql (.v 0) (.c (.i .i64 0))) (.ite (.v 1)
  (.call 11 [(false, [(.c (.i .u8 0))]), (false, [(.c (.i .i64 0))])] [(false, 1)]
  (.lt (.bin .eql (.v 2) (.c (.i .u8 3))) (.ite (.v 3)
  (.call 9 [(false, [(.c (.i .u8 3))])] [(false, 1)]
  (.lt (.bin .eql (.v 4) (.c (.i .i64 2))) (.ite (.v 5)
  (.call 8 [(false, [(.c (.i .u8 7))])] [(false, 1)]
  (.ite (.v 6)
  (.call 8 [(false, [(.c (.i .u8 8))])] [(false, 1)]
  (.lt (.un .not (.v 7)) (.ite (.v 8)
  (.call 9 [(false, [(.c (.i .u8 7))])] [(false, 1)]
  (.lt (.bin .eql (.v 9) (.c (.i .i64 3))) (.ite (.v 10)
  (.call 11 [(false, [(.c (.i .u8 7))]), (false, [(.c (.i .i64 3))])] [(false, 1)]
  (.lt (.bin .eql (.v 11) (.c (.i .u8 2))) (.ret [(false, [(.v 12)])])))
  (.ret [(false, [(.c (.b false))])]))))
  (.ret [(false, [(.c (.b false))])]))))
  (.ret [(false, [(.c (.b false))])])))
  (.ret [(false, [(.c (.b false))])]))))
  (.ret [(false, [(.c (.b false))])]))))
  (.ret [(false, [(.c (.b false))])]))))
theorem atlaslaw11_awake_c : compile envIrPlru 3000 7 = .ok atlaslaw11_awake_ir := by kernel_rfl
theorem atlaslaw11_awake_p : paramShape Tryd.prog 7 = some [] := by kernel_rfl
theorem atlaslaw11_awake_k : Known gPlru 7 [] atlaslaw11_awake_ir := ⟨envIrPlru, 3000, rfl, rfl, atlaslaw11_awake_c, atlaslaw11_awake_p⟩
/-- atlas/plru.Is -/
def plru_Is_ir : IR :=
  (.lt (.bin .lss (.v 0) (.c (.i .u8 8))) (.ret [(false, [(.v 1)])]))
theorem plru_Is_c : compile envIrPlru 3000 8 = .ok plru_Is_ir := by kernel_rfl
theorem plru_Is_p : paramShape Tryd.prog 8 = some [(false, 1)] := by kernel_rfl
theorem plru_Is_k : Known gPlru 8 [(false, 1)] plru_Is_ir := ⟨envIrPlru, 3000, rfl, rfl, plru_Is_c, plru_Is_p⟩
/-- atlas/plru.Victim -/
def plru_Victim_ir : IR :=
  (.call 13 [(false, [(.v 0)]), (false, [(.c (.i .u8 1))])] [(false, 1)]
  (.lt (.bin .eql (.v 1) (.c (.i .i64 0))) (.ite (.v 2)
  (.call 13 [(false, [(.v 0)]), (false, [(.c (.i .u8 2))])] [(false, 1)]
  (.ret [(false, [(.v 3)])]))
  (.call 13 [(false, [(.v 0)]), (false, [(.c (.i .u8 4))])] [(false, 1)]
  (.lt (.bin .add (.c (.i .i64 2)) (.v 3)) (.ret [(false, [(.v 4)])]))))))
theorem plru_Victim_c : compile envIrPlru 3000 9 = .ok plru_Victim_ir := by kernel_rfl
theorem plru_Victim_p : paramShape Tryd.prog 9 = some [(false, 1)] := by kernel_rfl
theorem plru_Victim_k : Known gPlru 9 [(false, 1)] plru_Victim_ir := ⟨envIrPlru, 3000, rfl, rfl, plru_Victim_c, plru_Victim_p⟩
/-- atlas/atlasref11.Victim -/
def atlasref11_Victim_ir : IR :=
  (.lt (.bin .rem (.v 0) (.c (.i .u8 2))) (.lt (.bin .eql (.v 1) (.c (.i .u8 0))) (.ite (.v 2)
  (.lt (.bin .quo (.v 0) (.c (.i .u8 2))) (.lt (.bin .rem (.v 3) (.c (.i .u8 2))) (.lt (.cv .i64 (.v 4)) (.ret [(false, [(.v 5)])]))))
  (.lt (.bin .quo (.v 0) (.c (.i .u8 4))) (.lt (.cv .i64 (.v 3)) (.lt (.bin .add (.c (.i .i64 2)) (.v 4)) (.ret [(false, [(.v 5)])])))))))
theorem atlasref11_Victim_c : compile envIrPlru 3000 10 = .ok atlasref11_Victim_ir := by kernel_rfl
theorem atlasref11_Victim_p : paramShape Tryd.prog 10 = some [(false, 1)] := by kernel_rfl
theorem atlasref11_Victim_k : Known gPlru 10 [(false, 1)] atlasref11_Victim_ir := ⟨envIrPlru, 3000, rfl, rfl, atlasref11_Victim_c, atlasref11_Victim_p⟩
/-- atlas/plru.Touch -/
def plru_Touch_ir : IR :=
  (.chk (.rng (.v 1) 4) (.lt (.bin .andNot (.v 0) (.ite (.isk (.v 1) 0) (.c (.i .u8 0)) (.ite (.isk (.v 1) 1) (.c (.i .u8 2)) (.ite (.isk (.v 1) 2) (.c (.i .u8 1)) (.c (.i .u8 5)))))) (.lt (.bin .or (.v 2) (.ite (.isk (.v 1) 0) (.c (.i .u8 3)) (.ite (.isk (.v 1) 1) (.c (.i .u8 1)) (.ite (.isk (.v 1) 2) (.c (.i .u8 4)) (.c (.i .u8 0)))))) (.ret [(false, [(.v 3)])]))))
theorem plru_Touch_c : compile envIrPlru 3000 11 = .ok plru_Touch_ir := by kernel_rfl
theorem plru_Touch_p : paramShape Tryd.prog 11 = some [(false, 1), (false, 1)] := by kernel_rfl
theorem plru_Touch_k : Known gPlru 11 [(false, 1), (false, 1)] plru_Touch_ir := ⟨envIrPlru, 3000, rfl, rfl, plru_Touch_c, plru_Touch_p⟩
/-- atlas/atlasref11.Touch -/
def atlasref11_Touch_ir : IR :=
  (.lt (.bin .rem (.v 0) (.c (.i .u8 2))) (.lt (.bin .quo (.v 0) (.c (.i .u8 2))) (.lt (.bin .rem (.v 3) (.c (.i .u8 2))) (.lt (.bin .quo (.v 0) (.c (.i .u8 4))) (.lt (.bin .eql (.v 1) (.c (.i .i64 0))) (.ite (.v 6)
  (.lt (.bin .eql (.v 1) (.c (.i .i64 1))) (.ite (.v 7)
  (.lt (.bin .eql (.v 1) (.c (.i .i64 2))) (.ite (.v 8)
  (.lt (.bin .eql (.v 1) (.c (.i .i64 3))) (.ite (.v 9)
  (.ret [(false, [(.c (.i .u8 0))])])
  (.ret [(false, [(.c (.i .u8 4))])])))
  (.lt (.bin .eql (.v 1) (.c (.i .i64 3))) (.ite (.v 9)
  (.ret [(false, [(.c (.i .u8 0))])])
  (.lt (.bin .mul (.c (.i .u8 4)) (.v 5)) (.lt (.bin .add (.c (.i .u8 1)) (.v 10)) (.ret [(false, [(.v 11)])])))))))
  (.lt (.bin .eql (.v 1) (.c (.i .i64 2))) (.ite (.v 8)
  (.lt (.bin .eql (.v 1) (.c (.i .i64 3))) (.ite (.v 9)
  (.ret [(false, [(.c (.i .u8 2))])])
  (.ret [(false, [(.c (.i .u8 6))])])))
  (.lt (.bin .eql (.v 1) (.c (.i .i64 3))) (.ite (.v 9)
  (.ret [(false, [(.c (.i .u8 2))])])
  (.lt (.bin .mul (.c (.i .u8 4)) (.v 5)) (.lt (.bin .add (.c (.i .u8 3)) (.v 10)) (.ret [(false, [(.v 11)])])))))))))
  (.lt (.bin .eql (.v 1) (.c (.i .i64 1))) (.ite (.v 7)
  (.lt (.bin .eql (.v 1) (.c (.i .i64 2))) (.ite (.v 8)
  (.lt (.bin .eql (.v 1) (.c (.i .i64 3))) (.ite (.v 9)
  (.ret [(false, [(.c (.i .u8 0))])])
  (.ret [(false, [(.c (.i .u8 4))])])))
  (.lt (.bin .eql (.v 1) (.c (.i .i64 3))) (.ite (.v 9)
  (.ret [(false, [(.c (.i .u8 0))])])
  (.lt (.bin .mul (.c (.i .u8 4)) (.v 5)) (.lt (.bin .add (.c (.i .u8 1)) (.v 10)) (.ret [(false, [(.v 11)])])))))))
  (.lt (.bin .eql (.v 1) (.c (.i .i64 2))) (.ite (.v 8)
  (.lt (.bin .eql (.v 1) (.c (.i .i64 3))) (.ite (.v 9)
  (.lt (.bin .mul (.c (.i .u8 2)) (.v 4)) (.lt (.bin .add (.c (.i .u8 0)) (.v 10)) (.lt (.bin .add (.v 11) (.c (.i .u8 0))) (.ret [(false, [(.v 12)])]))))
  (.lt (.bin .mul (.c (.i .u8 2)) (.v 4)) (.lt (.bin .add (.c (.i .u8 0)) (.v 10)) (.lt (.bin .add (.v 11) (.c (.i .u8 4))) (.ret [(false, [(.v 12)])]))))))
  (.lt (.bin .eql (.v 1) (.c (.i .i64 3))) (.ite (.v 9)
  (.lt (.bin .mul (.c (.i .u8 2)) (.v 4)) (.lt (.bin .add (.c (.i .u8 0)) (.v 10)) (.lt (.bin .add (.v 11) (.c (.i .u8 0))) (.ret [(false, [(.v 12)])]))))
  (.lt (.bin .mul (.c (.i .u8 2)) (.v 4)) (.lt (.bin .add (.v 2) (.v 10)) (.lt (.bin .mul (.c (.i .u8 4)) (.v 5)) (.lt (.bin .add (.v 11) (.v 12)) (.ret [(false, [(.v 13)])])))))))))))))))))
theorem atlasref11_Touch_c : compile envIrPlru 3000 12 = .ok atlasref11_Touch_ir := by kernel_rfl
theorem atlasref11_Touch_p : paramShape Tryd.prog 12 = some [(false, 1), (false, 1)] := by kernel_rfl
theorem atlasref11_Touch_k : Known gPlru 12 [(false, 1), (false, 1)] atlasref11_Touch_ir := ⟨envIrPlru, 3000, rfl, rfl, atlasref11_Touch_c, atlasref11_Touch_p⟩
/-- atlas/plru.side -/
def plru_side_ir : IR :=
  (.lt (.bin .and (.v 0) (.v 1)) (.lt (.bin .neq (.v 2) (.c (.i .u8 0))) (.ite (.v 3)
  (.ret [(false, [(.c (.i .i64 1))])])
  (.ret [(false, [(.c (.i .i64 0))])]))))
theorem plru_side_c : compile envIrPlru 3000 13 = .ok plru_side_ir := by kernel_rfl
theorem plru_side_p : paramShape Tryd.prog 13 = some [(false, 1), (false, 1)] := by kernel_rfl
theorem plru_side_k : Known gPlru 13 [(false, 1), (false, 1)] plru_side_ir := ⟨envIrPlru, 3000, rfl, rfl, plru_side_c, plru_side_p⟩
def TIrPlru : Tbl := [(3, [(false, 1), (false, 1)], atlaslaw11_PlruTrees_ir),(4, [(false, 1), (false, 1)], atlaslaw11_PlruAway_ir),(5, [(false, 1)], atlaslaw11_PlruAll_ir),(6, [(false, 1), (false, 1), (false, 1)], atlaslaw11_PlruPair_ir),(7, [], atlaslaw11_awake_ir),(8, [(false, 1)], plru_Is_ir),(9, [(false, 1)], plru_Victim_ir),(10, [(false, 1)], atlasref11_Victim_ir),(11, [(false, 1), (false, 1)], plru_Touch_ir),(12, [(false, 1), (false, 1)], atlasref11_Touch_ir),(13, [(false, 1), (false, 1)], plru_side_ir)]
theorem TIrPlru_ok : ∀ x ∈ TIrPlru, Known gPlru x.1 x.2.1 x.2.2 := List.forall_mem_cons.2 ⟨atlaslaw11_PlruTrees_k,  List.forall_mem_cons.2 ⟨atlaslaw11_PlruAway_k,  List.forall_mem_cons.2 ⟨atlaslaw11_PlruAll_k,  List.forall_mem_cons.2 ⟨atlaslaw11_PlruPair_k,  List.forall_mem_cons.2 ⟨atlaslaw11_awake_k,  List.forall_mem_cons.2 ⟨plru_Is_k,  List.forall_mem_cons.2 ⟨plru_Victim_k,  List.forall_mem_cons.2 ⟨atlasref11_Victim_k,  List.forall_mem_cons.2 ⟨plru_Touch_k,  List.forall_mem_cons.2 ⟨atlasref11_Touch_k,  List.forall_mem_cons.2 ⟨plru_side_k, fun _ h => nomatch h⟩⟩⟩⟩⟩⟩⟩⟩⟩⟩⟩
end Go.Proofs.YtlijmagfmkfdoaaDoor.Sx
