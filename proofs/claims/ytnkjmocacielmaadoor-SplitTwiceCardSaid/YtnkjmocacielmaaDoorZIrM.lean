/-
 IRs of functions, printed by a program of mine (wip/tools/mkir.py, ev.run.lean); each is checked by the kernel against the executor.
-/
import Derived.Test.YtnkjmocacielmaaDoorZBf
import Derived.Test.YtnkjmocacielmaaDoorProg
namespace Go.Proofs.YtnkjmocacielmaaDoor.Sx
open Go
set_option maxRecDepth 100000
def inlenvIrM : List FuncId :=
 102 ::
 103 ::
 104 ::
 110 ::
 97 ::
 93 ::
 []
def eatenvIrM : List FuncId :=
 98 ::
 99 ::
 105 ::
 []
noncomputable def envIrM : Env := { P := Tryd.prog, G := gAll, inl := inlenvIrM, unr := [], ded := true, eat := eatenvIrM }
def atlasref03_Right_ir : IR :=
 (.lt (.bin .rem (.v 0) (.c (.i .u64 4096))) (.lt (.bin .neq (.v 2) (.c (.i .u64 0))) (.ite (.v 3)
 (.ret [(false, [(.c (.b false))])])
 (.lt (.bin .gtr (.v 0) (.c (.i .u64 1099511627776))) (.ite (.v 4)
 (.ret [(false, [(.c (.b false))])])
 (.loop [(.c (.b false)), (.c (.i .i64 0))]
 (.lt (.len (.v 1)) (.lt (.bin .lss (.v 6) (.v 7)) (.ite (.v 8)
 (.chk (.inb (.v 1) (.v 6) 2) (.lt (.bin .eql (.idx (.v 1) (.v 6) 1) (.c (.i .u64 0))) (.ite (.v 9)
 (.ret [(false, [(.c (.b false))])])
 (.chk (.inb (.v 1) (.v 6) 2) (.lt (.bin .quo (.v 0) (.c (.i .u64 8))) (.lt (.bin .geq (.idx (.v 1) (.v 6) 0) (.v 10)) (.ite (.v 11)
 (.ret [(false, [(.c (.b false))])])
 (.lt (.bin .gtr (.v 6) (.c (.i .i64 0))) (.ite (.v 12)
 (.chk (.inb (.v 1) (.v 6) 2) (.lt (.bin .sub (.v 6) (.c (.i .i64 1))) (.chk (.inb (.v 1) (.v 13) 2) (.lt (.bin .leq (.idx (.v 1) (.v 6) 0) (.idx (.v 1) (.v 13) 0)) (.ite (.v 14)
 (.ret [(false, [(.c (.b false))])])
 (.lt (.bin .add (.v 6) (.c (.i .i64 1))) (.cont 0 [(.v 5), (.v 15)])))))))
 (.lt (.bin .add (.v 6) (.c (.i .i64 1))) (.cont 0 [(.v 5), (.v 13)])))))))))))
 (.ret [(false, [(.c (.b true))])]))))))))))
theorem atlasref03_Right_c : compile envIrM 3000 50 = .ok atlasref03_Right_ir := by kernel_rfl
theorem atlasref03_Right_p : paramShape Tryd.prog 50 = some [(true, 2)] := by kernel_rfl
def atlasref03_Same_ir : IR :=
 (.lt (.bin .neq (.v 0) (.v 2)) (.ite (.v 4)
 (.ret [(false, [(.c (.b false))])])
 (.lt (.len (.v 1)) (.lt (.len (.v 3)) (.lt (.bin .neq (.v 5) (.v 6)) (.ite (.v 7)
 (.ret [(false, [(.c (.b false))])])
 (.loop [(.c (.b false)), (.c (.i .i64 0))]
 (.lt (.len (.v 1)) (.lt (.bin .lss (.v 9) (.v 10)) (.ite (.v 11)
 (.chk (.inb (.v 1) (.v 9) 2) (.chk (.inb (.v 3) (.v 9) 2) (.lt (.un .not (.ite (.eqt false (.idx (.v 1) (.v 9) 0) (.idx (.v 3) (.v 9) 0)) (.ite (.eqt false (.idx (.v 1) (.v 9) 1) (.idx (.v 3) (.v 9) 1)) (.c (.b true)) (.c (.b false))) (.c (.b false)))) (.ite (.v 12)
 (.ret [(false, [(.c (.b false))])])
 (.lt (.bin .add (.v 9) (.c (.i .i64 1))) (.cont 0 [(.v 8), (.v 13)]))))))
 (.ret [(false, [(.c (.b true))])])))))))))))
theorem atlasref03_Same_c : compile envIrM 3000 12 = .ok atlasref03_Same_ir := by kernel_rfl
theorem atlasref03_Same_p : paramShape Tryd.prog 12 = some [(true, 2), (true, 2)] := by kernel_rfl
def mem_Store_ir : IR :=
 (.call 83 [(true, [(.v 0), (.v 1)]), (false, [(.v 2)]), (false, [(.v 3)])] [(false, 1)]
 (.lt (.bin .neq (.v 5) (.c (.i .i64 0))) (.ite (.v 6)
 (.ret [(true, [(.v 0), (.v 1)]), (false, [(.v 5)])])
 (.lt (.bin .quo (.v 2) (.c (.i .u64 8))) (.call 76 [(true, [(.v 0), (.v 1)]), (false, [(.v 2)])] [(false, 1)]
 (.lt (.bin .rem (.v 2) (.c (.i .u64 8))) (.lt (.cv .i64 (.v 9)) (.lt (.bin .mul (.v 10) (.c (.i .i64 8))) (.lt (.bin .mul (.v 3) (.c (.i .i64 8))) (.call 79 [(false, [(.v 8)]), (false, [(.v 11)]), (false, [(.v 12)]), (false, [(.v 4)])] [(false, 1)]
 (.call 84 [(true, [(.v 0), (.v 1)]), (false, [(.v 7)]), (false, [(.v 13)])] [(true, 2)]
 (.ret [(true, [(.v 14), (.v 15)]), (false, [(.c (.i .i64 0))])]))))))))))))
theorem mem_Store_c : compile envIrM 3000 62 = .ok mem_Store_ir := by kernel_rfl
theorem mem_Store_p : paramShape Tryd.prog 62 = some [(true, 2), (false, 1), (false, 1), (false, 1)] := by kernel_rfl
def mem_Word_ir : IR :=
 (.lt (.bin .quo (.v 2) (.c (.i .u64 8))) (.call 91 [(true, [(.v 0), (.v 1)]), (false, [(.v 3)])] [(false, 1), (false, 1)]
 (.lt (.un .not (.v 5)) (.ite (.v 6)
 (.ret [(false, [(.c (.i .u64 0))])])
 (.lt (.bin .geq (.v 2) (.v 0)) (.ite (.v 7)
 (.ret [(false, [(.c (.i .u64 0))])])
 (.chk (.inb (.v 1) (.v 4) 2) (.ret [(false, [(.idx (.v 1) (.v 4) 1)])]))))))))
theorem mem_Word_c : compile envIrM 3000 76 = .ok mem_Word_ir := by kernel_rfl
theorem mem_Word_p : paramShape Tryd.prog 76 = some [(true, 2), (false, 1)] := by kernel_rfl
def atlasref03_Word_ir : IR :=
 (.lt (.bin .geq (.v 2) (.v 0)) (.ite (.v 3)
 (.ret [(false, [(.c (.i .u64 0))])])
 (.lt (.len (.v 1)) (.loop [(.c (.i .u64 0)), (.c (.i .i64 0)), (.v 4)]
 (.lt (.bin .lss (.v 6) (.v 7)) (.ite (.v 8)
 (.lt (.bin .add (.v 6) (.v 7)) (.lt (.bin .quo (.v 9) (.c (.i .i64 2))) (.chk (.inb (.v 1) (.v 10) 2) (.lt (.bin .quo (.v 2) (.c (.i .u64 8))) (.lt (.bin .eql (.idx (.v 1) (.v 10) 0) (.v 11)) (.ite (.v 12)
 (.chk (.inb (.v 1) (.v 10) 2) (.ret [(false, [(.idx (.v 1) (.v 10) 1)])]))
 (.chk (.inb (.v 1) (.v 10) 2) (.lt (.bin .quo (.v 2) (.c (.i .u64 8))) (.lt (.bin .lss (.idx (.v 1) (.v 10) 0) (.v 13)) (.ite (.v 14)
 (.lt (.bin .add (.v 10) (.c (.i .i64 1))) (.cont 0 [(.v 5), (.v 15), (.v 7)]))
 (.cont 0 [(.v 5), (.v 6), (.v 10)])))))))))))
 (.ret [(false, [(.c (.i .u64 0))])])))))))
theorem atlasref03_Word_c : compile envIrM 3000 65 = .ok atlasref03_Word_ir := by kernel_rfl
theorem atlasref03_Word_p : paramShape Tryd.prog 65 = some [(true, 2), (false, 1)] := by kernel_rfl
def mem_Clear_ir : IR :=
 (.lt (.bin .quo (.v 2) (.c (.i .u64 8))) (.call 91 [(true, [(.v 0), (.v 1)]), (false, [(.v 4)])] [(false, 1), (false, 1)]
 (.lt (.bin .add (.v 2) (.v 3)) (.lt (.bin .quo (.v 7) (.c (.i .u64 8))) (.call 91 [(true, [(.v 0), (.v 1)]), (false, [(.v 8)])] [(false, 1), (false, 1)]
 (.chk (.bnd (.c (.i .i64 0)) (.v 5) (.len (.v 1))) (.chk (.room (.len (.app 2 (.c (.sl 0 [])) (.v 1))) 0) (.chk (.bnd (.v 9) (.len (.v 1)) (.len (.v 1))) (.chk (.room (.len (.app 2 (.c (.sl 0 [])) (.v 1))) 0) (.loop [(.c (.i .i64 0)), (.c (.i .i64 0))]
 (.lt (.bin .lss (.v 12) (.c (.i .i64 2))) (.ite (.v 13)
 (.chk (.inb (.cat (.one [(.sub (.v 1) (.c (.i .i64 0)) (.v 5))]) (.one [(.sub (.v 1) (.v 9) (.len (.v 1)))])) (.v 12) 1) (.chk (.inb (.cat (.one [(.sub (.v 1) (.c (.i .i64 0)) (.v 5))]) (.one [(.sub (.v 1) (.v 9) (.len (.v 1)))])) (.v 12) 1) (.lt (.len (.idx (.cat (.one [(.sub (.v 1) (.c (.i .i64 0)) (.v 5))]) (.one [(.sub (.v 1) (.v 9) (.len (.v 1)))])) (.v 12) 0)) (.lt (.bin .add (.v 11) (.v 14)) (.lt (.bin .lss (.v 15) (.c (.i .i64 0))) (.ite (.v 16)
 (.chk (.c (.b false)) (.ret []))
 (.lt (.bin .add (.v 12) (.c (.i .i64 1))) (.cont 0 [(.v 15), (.v 17)]))))))))
 (.chk (.eqt false (.v 11) (.v 11)) (.call (eatOff + 105) [(false, [(.c (.sl 0 []))]), (false, [(.v 11)])] [(false, 1)]
 (.loop [(.c (.i .i64 0)), (.v 14)]
 (.lt (.bin .lss (.v 15) (.c (.i .i64 2))) (.ite (.v 17)
 (.chk (.inb (.cat (.one [(.sub (.v 1) (.c (.i .i64 0)) (.v 5))]) (.one [(.sub (.v 1) (.v 9) (.len (.v 1)))])) (.v 15) 1) (.chk (.inb (.cat (.one [(.sub (.v 1) (.c (.i .i64 0)) (.v 5))]) (.one [(.sub (.v 1) (.v 9) (.len (.v 1)))])) (.v 15) 1) (.chk (.room (.len (.app 2 (.v 16) (.idx (.cat (.one [(.sub (.v 1) (.c (.i .i64 0)) (.v 5))]) (.one [(.sub (.v 1) (.v 9) (.len (.v 1)))])) (.v 15) 0))) 17) (.lt (.bin .add (.v 15) (.c (.i .i64 1))) (.cont 1 [(.v 18), (.app 2 (.v 16) (.idx (.cat (.one [(.sub (.v 1) (.c (.i .i64 0)) (.v 5))]) (.one [(.sub (.v 1) (.v 9) (.len (.v 1)))])) (.v 15) 0))])))))
 (.ret [(true, [(.v 0), (.v 16)])]))))))))))))))))))
theorem mem_Clear_c : compile envIrM 3000 80 = .ok mem_Clear_ir := by kernel_rfl
theorem mem_Clear_p : paramShape Tryd.prog 80 = some [(true, 2), (false, 1), (false, 1)] := by kernel_rfl
def atlasref03_Clear_ir : IR :=
 (.loop [(.c (.i .i64 0)), (.c (.sl 0 []))]
 (.lt (.len (.v 1)) (.lt (.bin .lss (.v 4) (.v 6)) (.ite (.v 7)
 (.chk (.inb (.v 1) (.v 4) 2) (.lt (.bin .mul (.c (.i .u64 8)) (.idx (.v 1) (.v 4) 0)) (.lt (.bin .lss (.v 8) (.v 2)) (.ite (.v 9)
 (.chk (.inb (.v 1) (.v 4) 2) (.chk (.room (.len (.app 2 (.v 5) (.one [(.idx (.v 1) (.v 4) 0), (.idx (.v 1) (.v 4) 1)]))) 17) (.lt (.bin .add (.v 4) (.c (.i .i64 1))) (.cont 0 [(.v 10), (.app 2 (.v 5) (.one [(.idx (.v 1) (.v 4) 0), (.idx (.v 1) (.v 4) 1)]))]))))
 (.chk (.inb (.v 1) (.v 4) 2) (.lt (.bin .mul (.c (.i .u64 8)) (.idx (.v 1) (.v 4) 0)) (.lt (.bin .add (.v 2) (.v 3)) (.lt (.bin .geq (.v 10) (.v 11)) (.ite (.v 12)
 (.chk (.inb (.v 1) (.v 4) 2) (.chk (.room (.len (.app 2 (.v 5) (.one [(.idx (.v 1) (.v 4) 0), (.idx (.v 1) (.v 4) 1)]))) 17) (.lt (.bin .add (.v 4) (.c (.i .i64 1))) (.cont 0 [(.v 13), (.app 2 (.v 5) (.one [(.idx (.v 1) (.v 4) 0), (.idx (.v 1) (.v 4) 1)]))]))))
 (.lt (.bin .add (.v 4) (.c (.i .i64 1))) (.cont 0 [(.v 13), (.v 5)])))))))))))
 (.ret [(true, [(.v 0), (.v 5)])])))))
theorem atlasref03_Clear_c : compile envIrM 3000 67 = .ok atlasref03_Clear_ir := by kernel_rfl
theorem atlasref03_Clear_p : paramShape Tryd.prog 67 = some [(true, 2), (false, 1), (false, 1)] := by kernel_rfl
def mem_wrong_ir : IR :=
 (.call 96 [(false, [(.v 3)])] [(false, 1)]
 (.lt (.un .not (.v 4)) (.ite (.v 5)
 (.ret [(false, [(.c (.i .i64 1))])])
 (.lt (.cv .u64 (.v 3)) (.call 86 [(false, [(.v 2)]), (false, [(.v 6)])] [(false, 1)]
 (.lt (.un .not (.v 7)) (.ite (.v 8)
 (.ret [(false, [(.c (.i .i64 2))])])
 (.lt (.bin .geq (.v 2) (.v 0)) (.ite (.v 9)
 (.ret [(false, [(.c (.i .i64 3))])])
 (.ret [(false, [(.c (.i .i64 0))])]))))))))))
theorem mem_wrong_c : compile envIrM 3000 83 = .ok mem_wrong_ir := by kernel_rfl
theorem mem_wrong_p : paramShape Tryd.prog 83 = some [(true, 2), (false, 1), (false, 1)] := by kernel_rfl
def mem_put_ir : IR :=
 (.call 91 [(true, [(.v 0), (.v 1)]), (false, [(.v 2)])] [(false, 1), (false, 1)]
 (.may (.bin .eql (.len (.v 1)) (.c (.i .i64 0)))
 (.ite (.v 5)
 (.lt (.bin .eql (.v 3) (.c (.i .u64 0))) (.ite (.v 6)
 (.lt (.bin .add (.v 4) (.c (.i .i64 1))) (.chk (.eqt false (.v 4) (.v 4)) (.chk (.eqt false (.v 7) (.v 7)) (.call (eatOff + 98) [(false, [(.c (.sl 0 []))]), (false, [(.v 4)]), (false, [(.v 7)])] [(false, 1)]
 (.ret [(true, [(.v 0), (.v 8)])])))))
 (.ite (.v 5)
 (.chk (.inb (.c (.sl 0 [])) (.v 4) 2) (.chk (.c (.b false)) (.ret [])))
 (.lt (.bin .neq (.v 3) (.c (.i .u64 0))) (.ite (.v 7)
 (.chk (.eqt false (.v 4) (.v 4)) (.call (eatOff + 99) [(false, [(.c (.sl 0 []))]), (false, [(.v 4)]), (false, [(.one [(.v 2), (.v 3)])])] [(false, 1)]
 (.ret [(true, [(.v 0), (.v 8)])])))
 (.ret [(true, [(.v 0), (.c (.sl 0 []))])]))))))
 (.ite (.v 5)
 (.chk (.inb (.c (.sl 0 [])) (.v 4) 2) (.chk (.c (.b false)) (.ret [])))
 (.lt (.bin .neq (.v 3) (.c (.i .u64 0))) (.ite (.v 6)
 (.chk (.eqt false (.v 4) (.v 4)) (.call (eatOff + 99) [(false, [(.c (.sl 0 []))]), (false, [(.v 4)]), (false, [(.one [(.v 2), (.v 3)])])] [(false, 1)]
 (.ret [(true, [(.v 0), (.v 7)])])))
 (.ret [(true, [(.v 0), (.c (.sl 0 []))])])))))
 (.chk (.room (.len (.app 2 (.c (.sl 2 [])) (.v 1))) 17) (.ite (.v 5)
 (.lt (.bin .eql (.v 3) (.c (.i .u64 0))) (.ite (.v 6)
 (.lt (.bin .add (.v 4) (.c (.i .i64 1))) (.chk (.eqt false (.v 4) (.v 4)) (.chk (.eqt false (.v 7) (.v 7)) (.call (eatOff + 98) [(false, [(.app 2 (.c (.sl 2 [])) (.v 1))]), (false, [(.v 4)]), (false, [(.v 7)])] [(false, 1)]
 (.ret [(true, [(.v 0), (.v 8)])])))))
 (.ite (.v 5)
 (.chk (.inb (.app 2 (.c (.sl 2 [])) (.v 1)) (.v 4) 2) (.chk (.inb (.app 2 (.c (.sl 2 [])) (.v 1)) (.v 4) 2) (.ret [(true, [(.v 0), (.put (.app 2 (.c (.sl 2 [])) (.v 1)) (.v 4) 1 [(.v 3)])])])))
 (.lt (.bin .neq (.v 3) (.c (.i .u64 0))) (.ite (.v 7)
 (.chk (.eqt false (.v 4) (.v 4)) (.call (eatOff + 99) [(false, [(.app 2 (.c (.sl 2 [])) (.v 1))]), (false, [(.v 4)]), (false, [(.one [(.v 2), (.v 3)])])] [(false, 1)]
 (.ret [(true, [(.v 0), (.v 8)])])))
 (.ret [(true, [(.v 0), (.app 2 (.c (.sl 2 [])) (.v 1))])]))))))
 (.ite (.v 5)
 (.chk (.inb (.app 2 (.c (.sl 2 [])) (.v 1)) (.v 4) 2) (.chk (.inb (.app 2 (.c (.sl 2 [])) (.v 1)) (.v 4) 2) (.ret [(true, [(.v 0), (.put (.app 2 (.c (.sl 2 [])) (.v 1)) (.v 4) 1 [(.v 3)])])])))
 (.lt (.bin .neq (.v 3) (.c (.i .u64 0))) (.ite (.v 6)
 (.chk (.eqt false (.v 4) (.v 4)) (.call (eatOff + 99) [(false, [(.app 2 (.c (.sl 2 [])) (.v 1))]), (false, [(.v 4)]), (false, [(.one [(.v 2), (.v 3)])])] [(false, 1)]
 (.ret [(true, [(.v 0), (.v 7)])])))
 (.ret [(true, [(.v 0), (.app 2 (.c (.sl 2 [])) (.v 1))])]))))))))
theorem mem_put_c : compile envIrM 3000 84 = .ok mem_put_ir := by kernel_rfl
theorem mem_put_p : paramShape Tryd.prog 84 = some [(true, 2), (false, 1), (false, 1)] := by kernel_rfl
def atlasref03_Set_ir : IR :=
 (.lt (.bin .eql (.v 3) (.c (.i .u64 0))) (.loop [(.v 4), (.c (.i .i64 0)), (.c (.sl 0 []))]
 (.lt (.len (.v 1)) (.lt (.bin .lss (.v 6) (.v 8)) (.ite (.v 9)
 (.lt (.un .not (.v 5)) (.ite (.v 10)
 (.chk (.inb (.v 1) (.v 6) 2) (.lt (.bin .gtr (.idx (.v 1) (.v 6) 0) (.v 2)) (.ite (.v 11)
 (.chk (.room (.len (.app 2 (.v 7) (.one [(.v 2), (.v 3)]))) 17) (.chk (.inb (.v 1) (.v 6) 2) (.lt (.bin .neq (.idx (.v 1) (.v 6) 0) (.v 2)) (.ite (.v 12)
 (.chk (.inb (.v 1) (.v 6) 2) (.chk (.room (.len (.app 2 (.app 2 (.v 7) (.one [(.v 2), (.v 3)])) (.one [(.idx (.v 1) (.v 6) 0), (.idx (.v 1) (.v 6) 1)]))) 17) (.lt (.bin .add (.v 6) (.c (.i .i64 1))) (.cont 0 [(.c (.b true)), (.v 13), (.app 2 (.app 2 (.v 7) (.one [(.v 2), (.v 3)])) (.one [(.idx (.v 1) (.v 6) 0), (.idx (.v 1) (.v 6) 1)]))]))))
 (.lt (.bin .add (.v 6) (.c (.i .i64 1))) (.cont 0 [(.c (.b true)), (.v 13), (.app 2 (.v 7) (.one [(.v 2), (.v 3)]))]))))))
 (.chk (.inb (.v 1) (.v 6) 2) (.lt (.bin .neq (.idx (.v 1) (.v 6) 0) (.v 2)) (.ite (.v 12)
 (.chk (.inb (.v 1) (.v 6) 2) (.chk (.room (.len (.app 2 (.v 7) (.one [(.idx (.v 1) (.v 6) 0), (.idx (.v 1) (.v 6) 1)]))) 17) (.lt (.bin .add (.v 6) (.c (.i .i64 1))) (.cont 0 [(.v 5), (.v 13), (.app 2 (.v 7) (.one [(.idx (.v 1) (.v 6) 0), (.idx (.v 1) (.v 6) 1)]))]))))
 (.lt (.bin .add (.v 6) (.c (.i .i64 1))) (.cont 0 [(.v 5), (.v 13), (.v 7)]))))))))
 (.chk (.inb (.v 1) (.v 6) 2) (.lt (.bin .neq (.idx (.v 1) (.v 6) 0) (.v 2)) (.ite (.v 11)
 (.chk (.inb (.v 1) (.v 6) 2) (.chk (.room (.len (.app 2 (.v 7) (.one [(.idx (.v 1) (.v 6) 0), (.idx (.v 1) (.v 6) 1)]))) 17) (.lt (.bin .add (.v 6) (.c (.i .i64 1))) (.cont 0 [(.v 5), (.v 12), (.app 2 (.v 7) (.one [(.idx (.v 1) (.v 6) 0), (.idx (.v 1) (.v 6) 1)]))]))))
 (.lt (.bin .add (.v 6) (.c (.i .i64 1))) (.cont 0 [(.v 5), (.v 12), (.v 7)])))))))
 (.lt (.un .not (.v 5)) (.ite (.v 10)
 (.chk (.room (.len (.app 2 (.v 7) (.one [(.v 2), (.v 3)]))) 17) (.ret [(true, [(.v 0), (.app 2 (.v 7) (.one [(.v 2), (.v 3)]))])]))
 (.ret [(true, [(.v 0), (.v 7)])]))))))))
theorem atlasref03_Set_c : compile envIrM 3000 49 = .ok atlasref03_Set_ir := by kernel_rfl
theorem atlasref03_Set_p : paramShape Tryd.prog 49 = some [(true, 2), (false, 1), (false, 1)] := by kernel_rfl
def mem_find_ir : IR :=
 (.lt (.len (.v 1)) (.loop [(.c (.i .i64 0)), (.v 3)]
 (.lt (.bin .lss (.v 4) (.v 5)) (.ite (.v 6)
 (.lt (.bin .add (.v 4) (.v 5)) (.lt (.cv .u64 (.v 7)) (.lt (.bin .shr (.v 8) (.c (.i .u64 1))) (.lt (.cv .i64 (.v 9)) (.chk (.inb (.v 1) (.v 10) 2) (.lt (.bin .neq (.idx (.v 1) (.v 10) 0) (.idx (.v 1) (.v 10) 0)) (.lt (.bin .neq (.v 2) (.v 2)) (.ite (.v 11)
 (.ite (.v 12)
 (.cont 0 [(.v 4), (.v 10)])
 (.lt (.bin .add (.v 10) (.c (.i .i64 1))) (.cont 0 [(.v 13), (.v 5)])))
 (.ite (.v 12)
 (.cont 0 [(.v 4), (.v 10)])
 (.lt (.bin .lss (.idx (.v 1) (.v 10) 0) (.v 2)) (.ite (.v 13)
 (.lt (.bin .add (.v 10) (.c (.i .i64 1))) (.cont 0 [(.v 14), (.v 5)]))
 (.lt (.bin .gtr (.idx (.v 1) (.v 10) 0) (.v 2)) (.ite (.v 14)
 (.cont 0 [(.v 4), (.v 10)])
 (.cont 0 [(.v 4), (.v 10)]))))))))))))))
 (.lt (.bin .lss (.v 4) (.v 3)) (.ite (.v 7)
 (.chk (.inb (.v 1) (.v 4) 2) (.lt (.bin .neq (.idx (.v 1) (.v 4) 0) (.idx (.v 1) (.v 4) 0)) (.lt (.bin .neq (.v 2) (.v 2)) (.ite (.v 8)
 (.ite (.v 9)
 (.ret [(false, [(.v 4)]), (false, [(.c (.b true))])])
 (.ret [(false, [(.v 4)]), (false, [(.c (.b false))])]))
 (.ite (.v 9)
 (.ret [(false, [(.v 4)]), (false, [(.c (.b false))])])
 (.lt (.bin .lss (.idx (.v 1) (.v 4) 0) (.v 2)) (.ite (.v 10)
 (.ret [(false, [(.v 4)]), (false, [(.c (.b false))])])
 (.lt (.bin .gtr (.idx (.v 1) (.v 4) 0) (.v 2)) (.ite (.v 11)
 (.ret [(false, [(.v 4)]), (false, [(.c (.b false))])])
 (.ret [(false, [(.v 4)]), (false, [(.c (.b true))])]))))))))))
 (.ret [(false, [(.v 4)]), (false, [(.c (.b false))])])))))))
theorem mem_find_c : compile envIrM 3000 91 = .ok mem_find_ir := by kernel_rfl
theorem mem_find_p : paramShape Tryd.prog 91 = some [(true, 2), (false, 1)] := by kernel_rfl
def bytes_Size_ir : IR :=
 (.lt (.bin .eql (.v 0) (.c (.i .i64 1))) (.ite (.v 1)
 (.ret [(false, [(.c (.b true))])])
 (.lt (.bin .eql (.v 0) (.c (.i .i64 2))) (.ite (.v 2)
 (.ret [(false, [(.c (.b true))])])
 (.lt (.bin .eql (.v 0) (.c (.i .i64 4))) (.ite (.v 3)
 (.ret [(false, [(.c (.b true))])])
 (.lt (.bin .eql (.v 0) (.c (.i .i64 8))) (.ret [(false, [(.v 4)])]))))))))
theorem bytes_Size_c : compile envIrM 3000 96 = .ok bytes_Size_ir := by kernel_rfl
theorem bytes_Size_p : paramShape Tryd.prog 96 = some [(false, 1)] := by kernel_rfl
end Go.Proofs.YtnkjmocacielmaaDoor.Sx
