/-
  IRs of functions, printed by a program of mine (wip/tools/mkir.py, ev.run.lean); each is checked by the kernel against the executor.
-/
import Derived.Test.YtffahdloddkcfaaBf
import Derived.Test.YtffahdloddkcfaaProg
namespace Go.Proofs.Ytffahdloddkcfaa.Sx
open Go
set_option maxRecDepth 100000
noncomputable def envIrMl : Env := { P := Try.prog, G := gAll, inl := [], unr := [], ded := true }
/-- atlas/atlaslaw03.MemDoes -/
def atlaslaw03_MemDoes_ir : IR :=
  (.call 9 [] [(false, 1)]
  (.lt (.un .not (.v 6)) (.ite (.v 7)
  (.call 9 [] [(false, 1)]
  (.ret [(false, [(.v 8)])]))
  (.call 10 [(true, [(.v 0), (.v 1)])] [(false, 1)]
  (.lt (.un .not (.v 8)) (.ite (.v 9)
  (.call 9 [] [(false, 1)]
  (.ret [(false, [(.v 10)])]))
  (.call 11 [(false, [(.v 5)])] [(true, 2), (false, 1)]
  (.call 12 [(true, [(.v 5), (.c (.sl 0 []))])] [(false, 1)]
  (.lt (.bin .eql (.v 12) (.c (.i .i64 0))) (.lt (.un .not (.eqt true (.v 13) (.v 14))) (.ite (.v 15)
  (.ret [(false, [(.c (.b false))])])
  (.ite (.v 13)
  (.call 13 [(true, [(.v 10), (.v 11)]), (true, [(.v 5), (.c (.sl 0 []))])] [(false, 1)]
  (.lt (.un .not (.v 16)) (.ite (.v 17)
  (.ret [(false, [(.c (.b false))])])
  (.lt (.un .not (.v 13)) (.ite (.v 18)
  (.lt (.bin .neq (.v 12) (.c (.i .i64 1))) (.ite (.v 19)
  (.ret [(false, [(.c (.b false))])])
  (.call 13 [(true, [(.v 10), (.v 11)]), (true, [(.c (.i .u64 0)), (.c (.sl 0 []))])] [(false, 1)]
  (.lt (.un .not (.v 20)) (.ite (.v 21)
  (.ret [(false, [(.c (.b false))])])
  (.call 14 [(true, [(.v 0), (.v 1)])] [(false, 1)]
  (.call 12 [(true, [(.v 0), (.v 1)])] [(false, 1)]
  (.lt (.un .not (.eqt true (.v 22) (.v 23))) (.ite (.v 24)
  (.call 14 [(true, [(.v 0), (.v 1)])] [(false, 1)]
  (.call 12 [(true, [(.v 0), (.v 1)])] [(false, 1)]
  (.lt (.eqt true (.v 25) (.v 26)) (.ret [(false, [(.v 27)])]))))
  (.call 12 [(true, [(.v 0), (.v 1)])] [(false, 1)]
  (.lt (.un .not (.v 25)) (.ite (.v 26)
  (.call 14 [(true, [(.v 0), (.v 1)])] [(false, 1)]
  (.call 12 [(true, [(.v 0), (.v 1)])] [(false, 1)]
  (.lt (.eqt true (.v 27) (.v 28)) (.ret [(false, [(.v 29)])]))))
  (.call 15 [(true, [(.v 0), (.v 1)]), (false, [(.v 2)]), (false, [(.v 3)])] [(false, 1), (false, 1)]
  (.call 16 [(true, [(.v 0), (.v 1)]), (false, [(.v 2)]), (false, [(.v 3)])] [(false, 1), (false, 1)]
  (.call 17 [(true, [(.v 0), (.v 1)]), (false, [(.v 2)]), (false, [(.v 3)]), (false, [(.v 4)])] [(true, 2), (false, 1)]
  (.call 18 [(true, [(.v 0), (.v 1)]), (false, [(.v 2)]), (false, [(.v 3)]), (false, [(.v 4)])] [(true, 2), (false, 1)]
  (.lt (.bin .eql (.v 27) (.v 29)) (.ite (.v 37)
  (.lt (.bin .eql (.v 28) (.v 30)) (.ite (.v 38)
  (.call 13 [(true, [(.v 31), (.v 32)]), (true, [(.v 34), (.v 35)])] [(false, 1)]
  (.ite (.v 39)
  (.lt (.bin .eql (.v 33) (.v 36)) (.ite (.v 40)
  (.call 19 [(true, [(.v 0), (.v 1)]), (false, [(.v 2)])] [(false, 1)]
  (.call 20 [(true, [(.v 0), (.v 1)]), (false, [(.v 2)])] [(false, 1)]
  (.lt (.bin .eql (.v 41) (.v 42)) (.ret [(false, [(.v 43)])]))))
  (.ret [(false, [(.c (.b false))])])))
  (.ret [(false, [(.c (.b false))])])))
  (.ret [(false, [(.c (.b false))])])))
  (.ret [(false, [(.c (.b false))])])))))))))))))))))))
  (.call 14 [(true, [(.v 0), (.v 1)])] [(false, 1)]
  (.call 12 [(true, [(.v 0), (.v 1)])] [(false, 1)]
  (.lt (.un .not (.eqt true (.v 19) (.v 20))) (.ite (.v 21)
  (.call 14 [(true, [(.v 0), (.v 1)])] [(false, 1)]
  (.call 12 [(true, [(.v 0), (.v 1)])] [(false, 1)]
  (.lt (.eqt true (.v 22) (.v 23)) (.ret [(false, [(.v 24)])]))))
  (.call 12 [(true, [(.v 0), (.v 1)])] [(false, 1)]
  (.lt (.un .not (.v 22)) (.ite (.v 23)
  (.call 14 [(true, [(.v 0), (.v 1)])] [(false, 1)]
  (.call 12 [(true, [(.v 0), (.v 1)])] [(false, 1)]
  (.lt (.eqt true (.v 24) (.v 25)) (.ret [(false, [(.v 26)])]))))
  (.call 15 [(true, [(.v 0), (.v 1)]), (false, [(.v 2)]), (false, [(.v 3)])] [(false, 1), (false, 1)]
  (.call 16 [(true, [(.v 0), (.v 1)]), (false, [(.v 2)]), (false, [(.v 3)])] [(false, 1), (false, 1)]
  (.call 17 [(true, [(.v 0), (.v 1)]), (false, [(.v 2)]), (false, [(.v 3)]), (false, [(.v 4)])] [(true, 2), (false, 1)]
  (.call 18 [(true, [(.v 0), (.v 1)]), (false, [(.v 2)]), (false, [(.v 3)]), (false, [(.v 4)])] [(true, 2), (false, 1)]
  (.lt (.bin .eql (.v 24) (.v 26)) (.ite (.v 34)
  (.lt (.bin .eql (.v 25) (.v 27)) (.ite (.v 35)
  (.call 13 [(true, [(.v 28), (.v 29)]), (true, [(.v 31), (.v 32)])] [(false, 1)]
  (.ite (.v 36)
  (.lt (.bin .eql (.v 30) (.v 33)) (.ite (.v 37)
  (.call 19 [(true, [(.v 0), (.v 1)]), (false, [(.v 2)])] [(false, 1)]
  (.call 20 [(true, [(.v 0), (.v 1)]), (false, [(.v 2)])] [(false, 1)]
  (.lt (.bin .eql (.v 38) (.v 39)) (.ret [(false, [(.v 40)])]))))
  (.ret [(false, [(.c (.b false))])])))
  (.ret [(false, [(.c (.b false))])])))
  (.ret [(false, [(.c (.b false))])])))
  (.ret [(false, [(.c (.b false))])])))))))))))))))))))
  (.lt (.un .not (.v 13)) (.ite (.v 16)
  (.lt (.bin .neq (.v 12) (.c (.i .i64 1))) (.ite (.v 17)
  (.ret [(false, [(.c (.b false))])])
  (.call 13 [(true, [(.v 10), (.v 11)]), (true, [(.c (.i .u64 0)), (.c (.sl 0 []))])] [(false, 1)]
  (.lt (.un .not (.v 18)) (.ite (.v 19)
  (.ret [(false, [(.c (.b false))])])
  (.call 14 [(true, [(.v 0), (.v 1)])] [(false, 1)]
  (.call 12 [(true, [(.v 0), (.v 1)])] [(false, 1)]
  (.lt (.un .not (.eqt true (.v 20) (.v 21))) (.ite (.v 22)
  (.call 14 [(true, [(.v 0), (.v 1)])] [(false, 1)]
  (.call 12 [(true, [(.v 0), (.v 1)])] [(false, 1)]
  (.lt (.eqt true (.v 23) (.v 24)) (.ret [(false, [(.v 25)])]))))
  (.call 12 [(true, [(.v 0), (.v 1)])] [(false, 1)]
  (.lt (.un .not (.v 23)) (.ite (.v 24)
  (.call 14 [(true, [(.v 0), (.v 1)])] [(false, 1)]
  (.call 12 [(true, [(.v 0), (.v 1)])] [(false, 1)]
  (.lt (.eqt true (.v 25) (.v 26)) (.ret [(false, [(.v 27)])]))))
  (.call 15 [(true, [(.v 0), (.v 1)]), (false, [(.v 2)]), (false, [(.v 3)])] [(false, 1), (false, 1)]
  (.call 16 [(true, [(.v 0), (.v 1)]), (false, [(.v 2)]), (false, [(.v 3)])] [(false, 1), (false, 1)]
  (.call 17 [(true, [(.v 0), (.v 1)]), (false, [(.v 2)]), (false, [(.v 3)]), (false, [(.v 4)])] [(true, 2), (false, 1)]
  (.call 18 [(true, [(.v 0), (.v 1)]), (false, [(.v 2)]), (false, [(.v 3)]), (false, [(.v 4)])] [(true, 2), (false, 1)]
  (.lt (.bin .eql (.v 25) (.v 27)) (.ite (.v 35)
  (.lt (.bin .eql (.v 26) (.v 28)) (.ite (.v 36)
  (.call 13 [(true, [(.v 29), (.v 30)]), (true, [(.v 32), (.v 33)])] [(false, 1)]
  (.ite (.v 37)
  (.lt (.bin .eql (.v 31) (.v 34)) (.ite (.v 38)
  (.call 19 [(true, [(.v 0), (.v 1)]), (false, [(.v 2)])] [(false, 1)]
  (.call 20 [(true, [(.v 0), (.v 1)]), (false, [(.v 2)])] [(false, 1)]
  (.lt (.bin .eql (.v 39) (.v 40)) (.ret [(false, [(.v 41)])]))))
  (.ret [(false, [(.c (.b false))])])))
  (.ret [(false, [(.c (.b false))])])))
  (.ret [(false, [(.c (.b false))])])))
  (.ret [(false, [(.c (.b false))])])))))))))))))))))))
  (.call 14 [(true, [(.v 0), (.v 1)])] [(false, 1)]
  (.call 12 [(true, [(.v 0), (.v 1)])] [(false, 1)]
  (.lt (.un .not (.eqt true (.v 17) (.v 18))) (.ite (.v 19)
  (.call 14 [(true, [(.v 0), (.v 1)])] [(false, 1)]
  (.call 12 [(true, [(.v 0), (.v 1)])] [(false, 1)]
  (.lt (.eqt true (.v 20) (.v 21)) (.ret [(false, [(.v 22)])]))))
  (.call 12 [(true, [(.v 0), (.v 1)])] [(false, 1)]
  (.lt (.un .not (.v 20)) (.ite (.v 21)
  (.call 14 [(true, [(.v 0), (.v 1)])] [(false, 1)]
  (.call 12 [(true, [(.v 0), (.v 1)])] [(false, 1)]
  (.lt (.eqt true (.v 22) (.v 23)) (.ret [(false, [(.v 24)])]))))
  (.call 15 [(true, [(.v 0), (.v 1)]), (false, [(.v 2)]), (false, [(.v 3)])] [(false, 1), (false, 1)]
  (.call 16 [(true, [(.v 0), (.v 1)]), (false, [(.v 2)]), (false, [(.v 3)])] [(false, 1), (false, 1)]
  (.call 17 [(true, [(.v 0), (.v 1)]), (false, [(.v 2)]), (false, [(.v 3)]), (false, [(.v 4)])] [(true, 2), (false, 1)]
  (.call 18 [(true, [(.v 0), (.v 1)]), (false, [(.v 2)]), (false, [(.v 3)]), (false, [(.v 4)])] [(true, 2), (false, 1)]
  (.lt (.bin .eql (.v 22) (.v 24)) (.ite (.v 32)
  (.lt (.bin .eql (.v 23) (.v 25)) (.ite (.v 33)
  (.call 13 [(true, [(.v 26), (.v 27)]), (true, [(.v 29), (.v 30)])] [(false, 1)]
  (.ite (.v 34)
  (.lt (.bin .eql (.v 28) (.v 31)) (.ite (.v 35)
  (.call 19 [(true, [(.v 0), (.v 1)]), (false, [(.v 2)])] [(false, 1)]
  (.call 20 [(true, [(.v 0), (.v 1)]), (false, [(.v 2)])] [(false, 1)]
  (.lt (.bin .eql (.v 36) (.v 37)) (.ret [(false, [(.v 38)])]))))
  (.ret [(false, [(.c (.b false))])])))
  (.ret [(false, [(.c (.b false))])])))
  (.ret [(false, [(.c (.b false))])])))
  (.ret [(false, [(.c (.b false))])]))))))))))))))))))))))))))))
theorem atlaslaw03_MemDoes_c : compile envIrMl 3000 3 = .ok atlaslaw03_MemDoes_ir := by kernel_rfl
theorem atlaslaw03_MemDoes_p : paramShape Try.prog 3 = some [(true, 2), (false, 1), (false, 1), (false, 1), (false, 1)] := by kernel_rfl
theorem atlaslaw03_MemDoes_k : Known gAll 3 (.ir [(true, 2), (false, 1), (false, 1), (false, 1), (false, 1)] atlaslaw03_MemDoes_ir) := known_ir (E := envIrMl) (n := 3000) rfl rfl atlaslaw03_MemDoes_c atlaslaw03_MemDoes_p
/-- atlas/atlaslaw03.MemClears -/
def atlaslaw03_MemClears_ir : IR :=
  (.call 9 [] [(false, 1)]
  (.lt (.un .not (.v 5)) (.ite (.v 6)
  (.call 9 [] [(false, 1)]
  (.ret [(false, [(.v 7)])]))
  (.call 21 [(true, [(.v 0), (.v 1)])] [(false, 1)]
  (.lt (.un .not (.v 7)) (.ite (.v 8)
  (.call 9 [] [(false, 1)]
  (.ret [(false, [(.v 9)])]))
  (.lt (.bin .eql (.v 0) (.c (.i .u64 0))) (.ite (.v 9)
  (.call 9 [] [(false, 1)]
  (.ret [(false, [(.v 10)])]))
  (.lt (.bin .rem (.v 2) (.v 0)) (.lt (.bin .quo (.v 10) (.c (.i .u64 8))) (.lt (.bin .mul (.v 11) (.c (.i .u64 8))) (.lt (.bin .sub (.v 0) (.v 12)) (.lt (.bin .add (.v 13) (.c (.i .u64 8))) (.lt (.bin .rem (.v 3) (.v 14)) (.lt (.bin .quo (.v 15) (.c (.i .u64 8))) (.lt (.bin .mul (.v 16) (.c (.i .u64 8))) (.call 22 [(true, [(.v 0), (.v 1)]), (false, [(.v 12)]), (false, [(.v 17)])] [(true, 2)]
  (.call 19 [(true, [(.v 0), (.v 1)]), (false, [(.v 4)])] [(false, 1)]
  (.lt (.bin .quo (.v 4) (.c (.i .u64 8))) (.lt (.bin .mul (.v 21) (.c (.i .u64 8))) (.lt (.bin .geq (.v 22) (.v 12)) (.ite (.v 23)
  (.lt (.bin .quo (.v 4) (.c (.i .u64 8))) (.lt (.bin .mul (.v 24) (.c (.i .u64 8))) (.lt (.bin .add (.v 12) (.v 17)) (.lt (.bin .lss (.v 25) (.v 26)) (.ite (.v 27)
  (.call 23 [(true, [(.v 0), (.v 1)]), (false, [(.v 12)]), (false, [(.v 17)])] [(true, 2)]
  (.call 13 [(true, [(.v 18), (.v 19)]), (true, [(.v 28), (.v 29)])] [(false, 1)]
  (.ite (.v 30)
  (.call 14 [(true, [(.v 18), (.v 19)])] [(false, 1)]
  (.ite (.v 31)
  (.call 19 [(true, [(.v 18), (.v 19)]), (false, [(.v 4)])] [(false, 1)]
  (.lt (.bin .eql (.v 32) (.c (.i .u64 0))) (.ret [(false, [(.v 33)])])))
  (.ret [(false, [(.c (.b false))])])))
  (.ret [(false, [(.c (.b false))])]))))
  (.call 23 [(true, [(.v 0), (.v 1)]), (false, [(.v 12)]), (false, [(.v 17)])] [(true, 2)]
  (.call 13 [(true, [(.v 18), (.v 19)]), (true, [(.v 28), (.v 29)])] [(false, 1)]
  (.ite (.v 30)
  (.call 14 [(true, [(.v 18), (.v 19)])] [(false, 1)]
  (.ite (.v 31)
  (.call 19 [(true, [(.v 18), (.v 19)]), (false, [(.v 4)])] [(false, 1)]
  (.lt (.bin .eql (.v 32) (.v 20)) (.ret [(false, [(.v 33)])])))
  (.ret [(false, [(.c (.b false))])])))
  (.ret [(false, [(.c (.b false))])])))))))))
  (.call 23 [(true, [(.v 0), (.v 1)]), (false, [(.v 12)]), (false, [(.v 17)])] [(true, 2)]
  (.call 13 [(true, [(.v 18), (.v 19)]), (true, [(.v 24), (.v 25)])] [(false, 1)]
  (.ite (.v 26)
  (.call 14 [(true, [(.v 18), (.v 19)])] [(false, 1)]
  (.ite (.v 27)
  (.call 19 [(true, [(.v 18), (.v 19)]), (false, [(.v 4)])] [(false, 1)]
  (.lt (.bin .eql (.v 28) (.v 20)) (.ret [(false, [(.v 29)])])))
  (.ret [(false, [(.c (.b false))])])))
  (.ret [(false, [(.c (.b false))])]))))))))))))))))))))))))))
theorem atlaslaw03_MemClears_c : compile envIrMl 3000 4 = .ok atlaslaw03_MemClears_ir := by kernel_rfl
theorem atlaslaw03_MemClears_p : paramShape Try.prog 4 = some [(true, 2), (false, 1), (false, 1), (false, 1)] := by kernel_rfl
theorem atlaslaw03_MemClears_k : Known gAll 4 (.ir [(true, 2), (false, 1), (false, 1), (false, 1)] atlaslaw03_MemClears_ir) := known_ir (E := envIrMl) (n := 3000) rfl rfl atlaslaw03_MemClears_c atlaslaw03_MemClears_p
/-- atlas/atlaslaw03.MemHolds -/
def atlaslaw03_MemHolds_ir : IR :=
  (.call 9 [] [(false, 1)]
  (.lt (.un .not (.v 7)) (.ite (.v 8)
  (.call 9 [] [(false, 1)]
  (.ret [(false, [(.v 9)])]))
  (.call 21 [(true, [(.v 0), (.v 1)])] [(false, 1)]
  (.lt (.un .not (.v 9)) (.ite (.v 10)
  (.call 9 [] [(false, 1)]
  (.ret [(false, [(.v 11)])]))
  (.lt (.bin .eql (.v 0) (.c (.i .u64 0))) (.ite (.v 11)
  (.call 9 [] [(false, 1)]
  (.ret [(false, [(.v 12)])]))
  (.call 24 [(false, [(.v 3)])] [(false, 1)]
  (.lt (.cv .u64 (.v 12)) (.call 24 [(false, [(.v 6)])] [(false, 1)]
  (.lt (.cv .u64 (.v 14)) (.lt (.bin .rem (.v 2) (.v 0)) (.lt (.bin .quo (.v 16) (.v 13)) (.lt (.bin .mul (.v 17) (.v 13)) (.lt (.bin .rem (.v 5) (.v 0)) (.lt (.bin .quo (.v 19) (.v 15)) (.lt (.bin .mul (.v 20) (.v 15)) (.lt (.cv .i64 (.v 13)) (.call 17 [(true, [(.v 0), (.v 1)]), (false, [(.v 18)]), (false, [(.v 22)]), (false, [(.v 4)])] [(true, 2), (false, 1)]
  (.lt (.cv .i64 (.v 13)) (.call 15 [(true, [(.v 23), (.v 24)]), (false, [(.v 18)]), (false, [(.v 26)])] [(false, 1), (false, 1)]
  (.lt (.cv .i64 (.v 15)) (.call 15 [(true, [(.v 0), (.v 1)]), (false, [(.v 21)]), (false, [(.v 29)])] [(false, 1), (false, 1)]
  (.lt (.cv .i64 (.v 15)) (.call 15 [(true, [(.v 23), (.v 24)]), (false, [(.v 21)]), (false, [(.v 32)])] [(false, 1), (false, 1)]
  (.lt (.bin .neq (.v 25) (.c (.i .i64 0))) (.ite (.v 35)
  (.ret [(false, [(.c (.b false))])])
  (.lt (.bin .neq (.v 28) (.c (.i .i64 0))) (.ite (.v 36)
  (.ret [(false, [(.c (.b false))])])
  (.lt (.bin .neq (.v 31) (.c (.i .i64 0))) (.ite (.v 37)
  (.ret [(false, [(.c (.b false))])])
  (.lt (.bin .neq (.v 34) (.c (.i .i64 0))) (.ite (.v 38)
  (.ret [(false, [(.c (.b false))])])
  (.lt (.cv .i64 (.v 13)) (.call 25 [(false, [(.v 4)]), (false, [(.v 39)])] [(false, 1)]
  (.lt (.bin .neq (.v 27) (.v 40)) (.ite (.v 41)
  (.ret [(false, [(.c (.b false))])])
  (.call 14 [(true, [(.v 23), (.v 24)])] [(false, 1)]
  (.lt (.un .not (.v 42)) (.ite (.v 43)
  (.ret [(false, [(.c (.b false))])])
  (.lt (.bin .add (.v 18) (.v 13)) (.lt (.bin .lss (.v 21) (.v 44)) (.ite (.v 45)
  (.lt (.bin .add (.v 21) (.v 15)) (.lt (.bin .lss (.v 18) (.v 46)) (.ite (.v 47)
  (.ret [(false, [(.c (.b true))])])
  (.lt (.bin .eql (.v 30) (.v 33)) (.ret [(false, [(.v 48)])])))))
  (.lt (.bin .eql (.v 30) (.v 33)) (.ret [(false, [(.v 46)])]))))))))))))))))))))))))))))))))))))))))))))))
theorem atlaslaw03_MemHolds_c : compile envIrMl 3000 5 = .ok atlaslaw03_MemHolds_ir := by kernel_rfl
theorem atlaslaw03_MemHolds_p : paramShape Try.prog 5 = some [(true, 2), (false, 1), (false, 1), (false, 1), (false, 1), (false, 1)] := by kernel_rfl
theorem atlaslaw03_MemHolds_k : Known gAll 5 (.ir [(true, 2), (false, 1), (false, 1), (false, 1), (false, 1), (false, 1)] atlaslaw03_MemHolds_ir) := known_ir (E := envIrMl) (n := 3000) rfl rfl atlaslaw03_MemHolds_c atlaslaw03_MemHolds_p
/-- atlas/atlaslaw03.MemTurned -/
def atlaslaw03_MemTurned_ir : IR :=
  (.call 9 [] [(false, 1)]
  (.lt (.un .not (.v 8)) (.ite (.v 9)
  (.call 9 [] [(false, 1)]
  (.ret [(false, [(.v 10)])]))
  (.call 21 [(true, [(.v 0), (.v 1)])] [(false, 1)]
  (.lt (.un .not (.v 10)) (.ite (.v 11)
  (.call 9 [] [(false, 1)]
  (.ret [(false, [(.v 12)])]))
  (.lt (.bin .eql (.v 0) (.c (.i .u64 0))) (.ite (.v 12)
  (.call 9 [] [(false, 1)]
  (.ret [(false, [(.v 13)])]))
  (.call 24 [(false, [(.v 3)])] [(false, 1)]
  (.lt (.cv .u64 (.v 13)) (.call 24 [(false, [(.v 6)])] [(false, 1)]
  (.lt (.cv .u64 (.v 15)) (.lt (.bin .rem (.v 2) (.v 0)) (.lt (.bin .quo (.v 17) (.v 14)) (.lt (.bin .mul (.v 18) (.v 14)) (.lt (.bin .rem (.v 5) (.v 0)) (.lt (.bin .quo (.v 20) (.v 16)) (.lt (.bin .mul (.v 21) (.v 16)) (.lt (.cv .i64 (.v 14)) (.call 15 [(true, [(.v 0), (.v 1)]), (false, [(.v 19)]), (false, [(.v 23)])] [(false, 1), (false, 1)]
  (.lt (.cv .i64 (.v 14)) (.call 17 [(true, [(.v 0), (.v 1)]), (false, [(.v 19)]), (false, [(.v 26)]), (false, [(.v 4)])] [(true, 2), (false, 1)]
  (.lt (.cv .i64 (.v 16)) (.call 17 [(true, [(.v 27), (.v 28)]), (false, [(.v 22)]), (false, [(.v 30)]), (false, [(.v 7)])] [(true, 2), (false, 1)]
  (.lt (.cv .i64 (.v 16)) (.call 17 [(true, [(.v 0), (.v 1)]), (false, [(.v 22)]), (false, [(.v 34)]), (false, [(.v 7)])] [(true, 2), (false, 1)]
  (.lt (.cv .i64 (.v 14)) (.call 17 [(true, [(.v 35), (.v 36)]), (false, [(.v 19)]), (false, [(.v 38)]), (false, [(.v 4)])] [(true, 2), (false, 1)]
  (.lt (.cv .i64 (.v 14)) (.call 17 [(true, [(.v 27), (.v 28)]), (false, [(.v 19)]), (false, [(.v 42)]), (false, [(.v 24)])] [(true, 2), (false, 1)]
  (.call 13 [(true, [(.v 43), (.v 44)]), (true, [(.v 0), (.v 1)])] [(false, 1)]
  (.ite (.v 46)
  (.lt (.bin .add (.v 19) (.v 14)) (.lt (.bin .lss (.v 22) (.v 47)) (.ite (.v 48)
  (.lt (.bin .add (.v 22) (.v 16)) (.lt (.bin .lss (.v 19) (.v 49)) (.ite (.v 50)
  (.ret [(false, [(.c (.b true))])])
  (.call 13 [(true, [(.v 31), (.v 32)]), (true, [(.v 39), (.v 40)])] [(false, 1)]
  (.ret [(false, [(.v 51)])])))))
  (.call 13 [(true, [(.v 31), (.v 32)]), (true, [(.v 39), (.v 40)])] [(false, 1)]
  (.ret [(false, [(.v 49)])])))))
  (.ret [(false, [(.c (.b false))])])))))))))))))))))))))))))))))))))
theorem atlaslaw03_MemTurned_c : compile envIrMl 3000 6 = .ok atlaslaw03_MemTurned_ir := by kernel_rfl
theorem atlaslaw03_MemTurned_p : paramShape Try.prog 6 = some [(true, 2), (false, 1), (false, 1), (false, 1), (false, 1), (false, 1), (false, 1)] := by kernel_rfl
theorem atlaslaw03_MemTurned_k : Known gAll 6 (.ir [(true, 2), (false, 1), (false, 1), (false, 1), (false, 1), (false, 1), (false, 1)] atlaslaw03_MemTurned_ir) := known_ir (E := envIrMl) (n := 3000) rfl rfl atlaslaw03_MemTurned_c atlaslaw03_MemTurned_p
/-- atlas/atlaslaw03.MemHalves -/
def atlaslaw03_MemHalves_ir : IR :=
  (.call 9 [] [(false, 1)]
  (.lt (.un .not (.v 5)) (.ite (.v 6)
  (.call 9 [] [(false, 1)]
  (.ret [(false, [(.v 7)])]))
  (.call 21 [(true, [(.v 0), (.v 1)])] [(false, 1)]
  (.lt (.un .not (.v 7)) (.ite (.v 8)
  (.call 9 [] [(false, 1)]
  (.ret [(false, [(.v 9)])]))
  (.lt (.bin .eql (.v 0) (.c (.i .u64 0))) (.ite (.v 9)
  (.call 9 [] [(false, 1)]
  (.ret [(false, [(.v 10)])]))
  (.lt (.bin .rem (.v 3) (.c (.i .u8 3))) (.call 24 [(false, [(.v 10)])] [(false, 1)]
  (.lt (.cv .u64 (.v 11)) (.lt (.bin .rem (.v 2) (.v 0)) (.lt (.bin .mul (.c (.i .u64 2)) (.v 12)) (.lt (.bin .quo (.v 13) (.v 14)) (.lt (.bin .mul (.c (.i .u64 2)) (.v 12)) (.lt (.bin .mul (.v 15) (.v 16)) (.lt (.bin .mul (.c (.i .u64 2)) (.v 12)) (.lt (.cv .i64 (.v 18)) (.call 15 [(true, [(.v 0), (.v 1)]), (false, [(.v 17)]), (false, [(.v 19)])] [(false, 1), (false, 1)]
  (.lt (.cv .i64 (.v 12)) (.call 15 [(true, [(.v 0), (.v 1)]), (false, [(.v 17)]), (false, [(.v 22)])] [(false, 1), (false, 1)]
  (.lt (.bin .add (.v 17) (.v 12)) (.lt (.cv .i64 (.v 12)) (.call 15 [(true, [(.v 0), (.v 1)]), (false, [(.v 25)]), (false, [(.v 26)])] [(false, 1), (false, 1)]
  (.lt (.bin .neq (.v 21) (.c (.i .i64 0))) (.ite (.v 29)
  (.ret [(false, [(.c (.b false))])])
  (.lt (.bin .neq (.v 24) (.c (.i .i64 0))) (.ite (.v 30)
  (.ret [(false, [(.c (.b false))])])
  (.lt (.bin .neq (.v 28) (.c (.i .i64 0))) (.ite (.v 31)
  (.ret [(false, [(.c (.b false))])])
  (.lt (.bin .mul (.c (.i .u64 8)) (.v 12)) (.lt (.bin .shl (.v 27) (.v 32)) (.lt (.bin .add (.v 23) (.v 33)) (.lt (.bin .neq (.v 20) (.v 34)) (.ite (.v 35)
  (.ret [(false, [(.c (.b false))])])
  (.lt (.bin .mul (.c (.i .u64 2)) (.v 12)) (.lt (.cv .i64 (.v 36)) (.call 17 [(true, [(.v 0), (.v 1)]), (false, [(.v 17)]), (false, [(.v 37)]), (false, [(.v 4)])] [(true, 2), (false, 1)]
  (.lt (.cv .i64 (.v 12)) (.call 17 [(true, [(.v 0), (.v 1)]), (false, [(.v 17)]), (false, [(.v 41)]), (false, [(.v 4)])] [(true, 2), (false, 1)]
  (.lt (.bin .add (.v 17) (.v 12)) (.lt (.cv .i64 (.v 12)) (.lt (.bin .mul (.c (.i .u64 8)) (.v 12)) (.lt (.bin .shr (.v 4) (.v 47)) (.call 17 [(true, [(.v 42), (.v 43)]), (false, [(.v 45)]), (false, [(.v 46)]), (false, [(.v 48)])] [(true, 2), (false, 1)]
  (.lt (.bin .quo (.v 17) (.c (.i .u64 8))) (.lt (.bin .mul (.v 52) (.c (.i .u64 8))) (.call 15 [(true, [(.v 38), (.v 39)]), (false, [(.v 53)]), (false, [(.c (.i .i64 8))])] [(false, 1), (false, 1)]
  (.call 13 [(true, [(.v 38), (.v 39)]), (true, [(.v 49), (.v 50)])] [(false, 1)]
  (.ite (.v 56)
  (.call 19 [(true, [(.v 38), (.v 39)]), (false, [(.v 17)])] [(false, 1)]
  (.lt (.bin .eql (.v 57) (.v 54)) (.ret [(false, [(.v 58)])])))
  (.ret [(false, [(.c (.b false))])])))))))))))))))))))))))))))))))))))))))))))))))))))
theorem atlaslaw03_MemHalves_c : compile envIrMl 3000 8 = .ok atlaslaw03_MemHalves_ir := by kernel_rfl
theorem atlaslaw03_MemHalves_p : paramShape Try.prog 8 = some [(true, 2), (false, 1), (false, 1), (false, 1)] := by kernel_rfl
theorem atlaslaw03_MemHalves_k : Known gAll 8 (.ir [(true, 2), (false, 1), (false, 1), (false, 1)] atlaslaw03_MemHalves_ir) := known_ir (E := envIrMl) (n := 3000) rfl rfl atlaslaw03_MemHalves_c atlaslaw03_MemHalves_p
/-- atlas/atlaslaw03.awake -/
def atlaslaw03_awake_ir : IR :=
  (.call 11 [(false, [(.c (.i .u64 8192))])] [(true, 2), (false, 1)]
  (.call 11 [(false, [(.c (.i .u64 5))])] [(true, 2), (false, 1)]
  (.call 17 [(true, [(.v 0), (.v 1)]), (false, [(.c (.i .u64 4))]), (false, [(.c (.i .i64 4))]), (false, [(.c (.i .u64 287454020))])] [(true, 2), (false, 1)]
  (.call 15 [(true, [(.v 6), (.v 7)]), (false, [(.c (.i .u64 0))]), (false, [(.c (.i .i64 8))])] [(false, 1), (false, 1)]
  (.call 15 [(true, [(.v 6), (.v 7)]), (false, [(.c (.i .u64 2))]), (false, [(.c (.i .i64 4))])] [(false, 1), (false, 1)]
  (.call 15 [(true, [(.v 6), (.v 7)]), (false, [(.c (.i .u64 8192))]), (false, [(.c (.i .i64 8))])] [(false, 1), (false, 1)]
  (.call 15 [(true, [(.v 6), (.v 7)]), (false, [(.c (.i .u64 0))]), (false, [(.c (.i .i64 3))])] [(false, 1), (false, 1)]
  (.lt (.bin .eql (.v 2) (.c (.i .i64 0))) (.ite (.v 17)
  (.lt (.bin .eql (.v 5) (.c (.i .i64 1))) (.ite (.v 18)
  (.lt (.bin .eql (.v 8) (.c (.i .i64 0))) (.ite (.v 19)
  (.lt (.bin .eql (.v 9) (.c (.i .u64 1234605615003729920))) (.ite (.v 20)
  (.lt (.bin .eql (.v 10) (.c (.i .i64 0))) (.ite (.v 21)
  (.lt (.bin .eql (.v 12) (.c (.i .i64 2))) (.ite (.v 22)
  (.lt (.bin .eql (.v 14) (.c (.i .i64 3))) (.ite (.v 23)
  (.lt (.bin .eql (.v 16) (.c (.i .i64 1))) (.ite (.v 24)
  (.lt (.len (.v 7)) (.lt (.bin .eql (.v 25) (.c (.i .i64 1))) (.ite (.v 26)
  (.call 19 [(true, [(.v 6), (.v 7)]), (false, [(.c (.i .u64 6))])] [(false, 1)]
  (.lt (.bin .eql (.v 27) (.v 9)) (.ite (.v 28)
  (.call 14 [(true, [(.v 6), (.v 7)])] [(false, 1)]
  (.ite (.v 29)
  (.call 14 [(true, [(.c (.i .u64 8)), (.c (.sl 0 []))])] [(false, 1)]
  (.lt (.un .not (.v 30)) (.ite (.v 31)
  (.call 22 [(true, [(.v 6), (.v 7)]), (false, [(.c (.i .u64 0))]), (false, [(.c (.i .u64 8))])] [(true, 2)]
  (.lt (.len (.v 33)) (.lt (.bin .eql (.v 34) (.c (.i .i64 0))) (.ret [(false, [(.v 35)])]))))
  (.ret [(false, [(.c (.b false))])]))))
  (.ret [(false, [(.c (.b false))])])))
  (.ret [(false, [(.c (.b false))])]))))
  (.ret [(false, [(.c (.b false))])]))))
  (.ret [(false, [(.c (.b false))])])))
  (.ret [(false, [(.c (.b false))])])))
  (.ret [(false, [(.c (.b false))])])))
  (.ret [(false, [(.c (.b false))])])))
  (.ret [(false, [(.c (.b false))])])))
  (.ret [(false, [(.c (.b false))])])))
  (.ret [(false, [(.c (.b false))])])))
  (.ret [(false, [(.c (.b false))])]))))))))))
theorem atlaslaw03_awake_c : compile envIrMl 3000 9 = .ok atlaslaw03_awake_ir := by kernel_rfl
theorem atlaslaw03_awake_p : paramShape Try.prog 9 = some [] := by kernel_rfl
theorem atlaslaw03_awake_k : Known gAll 9 (.ir [] atlaslaw03_awake_ir) := known_ir (E := envIrMl) (n := 3000) rfl rfl atlaslaw03_awake_c atlaslaw03_awake_p
/-- atlas/atlaslaw03.fits -/
def atlaslaw03_fits_ir : IR :=
  (.call 10 [(true, [(.v 0), (.v 1)])] [(false, 1)]
  (.ite (.v 2)
  (.call 12 [(true, [(.v 0), (.v 1)])] [(false, 1)]
  (.ret [(false, [(.v 3)])]))
  (.ret [(false, [(.c (.b false))])])))
theorem atlaslaw03_fits_c : compile envIrMl 3000 21 = .ok atlaslaw03_fits_ir := by kernel_rfl
theorem atlaslaw03_fits_p : paramShape Try.prog 21 = some [(true, 2)] := by kernel_rfl
theorem atlaslaw03_fits_k : Known gAll 21 (.ir [(true, 2)] atlaslaw03_fits_ir) := known_ir (E := envIrMl) (n := 3000) rfl rfl atlaslaw03_fits_c atlaslaw03_fits_p
def TIrMl : Tbl :=
  (9, .ir [] atlaslaw03_awake_ir) ::
  (21, .ir [(true, 2)] atlaslaw03_fits_ir) ::
  []
theorem TIrMl_ok : ∀ x ∈ TIrMl, Known gAll x.1 x.2 :=
  kcons atlaslaw03_awake_k <|
  kcons atlaslaw03_fits_k <|
  fun _ h => nomatch h
end Go.Proofs.Ytffahdloddkcfaa.Sx
