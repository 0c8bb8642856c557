/-
  IRs of functions, printed by a program of mine (wip/tools/mkir.py, ev.run.lean); each is checked by the kernel against the executor.
-/
import Derived.Test.YtmmppghdnoeheaaGreatDoorZBf
import Derived.Test.YtmmppghdnoeheaaGreatDoorProg
namespace Go.Proofs.YtmmppghdnoeheaaGreatDoor.Sx
open Go
set_option maxRecDepth 100000
noncomputable def envIrHg : Env := { P := Tryz.prog, G := gAll, inl := [], unr := [], ded := true }
def atlasref16_Bare_ir : IR :=
  (.ret [(true, ([(.c (.sl 0 []))] ++ vr 1 7))])
theorem atlasref16_Bare_c : compile envIrHg 3000 13 = .ok atlasref16_Bare_ir := by kernel_rfl
theorem atlasref16_Bare_p : paramShape Tryz.prog 13 = some [(true, 8)] := by kernel_rfl
theorem atlasref16_Bare_k : Known gAll 13 (.ir [(true, 8)] atlasref16_Bare_ir) := known_ir (E := envIrHg) (n := 3000) rfl rfl atlasref16_Bare_c atlasref16_Bare_p
def hart_within_ir : IR :=
  (.lt (.un .not (.v 0)) (.ite (.v 8)
  (.lt (.un .not (.v 1)) (.ite (.v 9)
  (.lt (.un .not (.v 2)) (.ite (.v 10)
  (.lt (.eqt true (.v 3) (.v 7)) (.ret [(false, [(.v 11)])]))
  (.ite (.v 6)
  (.lt (.eqt true (.v 3) (.v 7)) (.ret [(false, [(.v 11)])]))
  (.ret [(false, [(.c (.b false))])]))))
  (.ite (.v 5)
  (.lt (.un .not (.v 2)) (.ite (.v 10)
  (.lt (.eqt true (.v 3) (.v 7)) (.ret [(false, [(.v 11)])]))
  (.ite (.v 6)
  (.lt (.eqt true (.v 3) (.v 7)) (.ret [(false, [(.v 11)])]))
  (.ret [(false, [(.c (.b false))])]))))
  (.ret [(false, [(.c (.b false))])]))))
  (.ite (.v 4)
  (.lt (.un .not (.v 1)) (.ite (.v 9)
  (.lt (.un .not (.v 2)) (.ite (.v 10)
  (.lt (.eqt true (.v 3) (.v 7)) (.ret [(false, [(.v 11)])]))
  (.ite (.v 6)
  (.lt (.eqt true (.v 3) (.v 7)) (.ret [(false, [(.v 11)])]))
  (.ret [(false, [(.c (.b false))])]))))
  (.ite (.v 5)
  (.lt (.un .not (.v 2)) (.ite (.v 10)
  (.lt (.eqt true (.v 3) (.v 7)) (.ret [(false, [(.v 11)])]))
  (.ite (.v 6)
  (.lt (.eqt true (.v 3) (.v 7)) (.ret [(false, [(.v 11)])]))
  (.ret [(false, [(.c (.b false))])]))))
  (.ret [(false, [(.c (.b false))])]))))
  (.ret [(false, [(.c (.b false))])]))))
theorem hart_within_c : compile envIrHg 3000 35 = .ok hart_within_ir := by kernel_rfl
theorem hart_within_p : paramShape Tryz.prog 35 = some [(true, 4), (true, 4)] := by kernel_rfl
theorem hart_within_k : Known gAll 35 (.ir [(true, 4), (true, 4)] hart_within_ir) := known_ir (E := envIrHg) (n := 3000) rfl rfl hart_within_c hart_within_p
noncomputable def envIrHgJ : Env := { P := Tryz.prog, G := gAll, inl := [], unr := [], jn := List.range 400, ded := true }
def hart_Agrees_ir : IR :=
  (.call 32 [(true, [(.v 0)])] [(false, 1)]
  (.lt (.len (.v 10)) (.loop [(.c (.b false)), (.c (.i .i64 0))]
  (.lt (.bin .lss (.v 13) (.v 11)) (.ite (.v 14)
  (.chk (.inb (.v 10) (.v 13) 11) (.jn (.ite (.v 15)
  (.lt (.bin .add (.v 13) (.c (.i .i64 1))) (.cont 0 [(.v 12), (.v 16)]))
  (.call 34 [(false, [(.idx (.v 10) (.v 13) 4)])] [(false, 1)]
  (.call 33 [(true, [(.v 8), (.v 9)]), (false, [(.v 3)]), (false, [(.v 16)]), (false, [(.c (.i .i64 1))])] [(true, 13), (true, 3)]
  (.jn (.ite (.v 33)
  (.ret [(false, [(.c (.b false))])])
  (.lt (.bin .add (.v 13) (.c (.i .i64 1))) (.cont 0 [(.v 12), (.v 34)])))
  (.ite (.v 30)
  (.cont 1 [(.c (.b true))])
  (.lt (.bin .neq (.v 17) (.idx (.v 10) (.v 13) 3)) (.ite (.v 33)
  (.cont 1 [(.c (.b true))])
  (.lt (.bin .neq (.v 28) (.idx (.v 10) (.v 13) 5)) (.ite (.v 34)
  (.cont 1 [(.c (.b true))])
  (.lt (.un .not (.v 25)) (.ite (.v 35)
  (.cont 1 [(.c (.b true))])
  (.ite (.idx (.v 10) (.v 13) 10)
  (.lt (.un .not (.v 26)) (.ite (.v 36)
  (.cont 1 [(.c (.b true))])
  (.call 36 [(true, (vr 19 11))] [(true, 4)]
  (.call 35 [(true, (idr (.v 10) (.v 13) 6 4)), (true, (vr 37 4))] [(false, 1)]
  (.lt (.un .not (.v 41)) (.cont 1 [(.v 42)]))))))
  (.call 36 [(true, (vr 19 11))] [(true, 4)]
  (.call 35 [(true, (idr (.v 10) (.v 13) 6 4)), (true, (vr 36 4))] [(false, 1)]
  (.lt (.un .not (.v 40)) (.cont 1 [(.v 41)]))))))))))))))))
  (.lt (.un .not (.idx (.v 10) (.v 13) 2)) (.ite (.v 15)
  (.lt (.bin .neq (.idx (.v 10) (.v 13) 1) (.v 2)) (.cont 1 [(.v 16)]))
  (.cont 1 [(.c (.b false))])))))
  (.ret [(false, [(.c (.b true))])]))))))
theorem hart_Agrees_c : compile envIrHgJ 3000 15 = .ok hart_Agrees_ir := by kernel_rfl
theorem hart_Agrees_p : paramShape Tryz.prog 15 = some [(true, 8), (true, 2)] := by kernel_rfl
theorem hart_Agrees_k : Known gAll 15 (.ir [(true, 8), (true, 2)] hart_Agrees_ir) := known_ir (E := envIrHgJ) (n := 3000) rfl rfl hart_Agrees_c hart_Agrees_p
def TIrHg : Tbl :=
  (13, .ir [(true, 8)] atlasref16_Bare_ir) ::
  (35, .ir [(true, 4), (true, 4)] hart_within_ir) ::
  (15, .ir [(true, 8), (true, 2)] hart_Agrees_ir) ::
  []
theorem TIrHg_ok : ∀ x ∈ TIrHg, Known gAll x.1 x.2 :=
  kcons atlasref16_Bare_k <|
  kcons hart_within_k <|
  kcons hart_Agrees_k <|
  fun _ h => nomatch h
end Go.Proofs.YtmmppghdnoeheaaGreatDoor.Sx
