/-
  IRs of functions, printed by a program of mine (wip/tools/mkir.py, ev.run.lean); each is checked by the kernel against the executor.
-/
import Derived.Test.YtngpjdieelcbmaaGreatDoorBf
import Derived.Test.YtngpjdieelcbmaaGreatDoorProg
namespace Go.Proofs.YtngpjdieelcbmaaGreatDoor.Sx
open Go
set_option maxRecDepth 100000
def inlenvIrM : List FuncId :=
  126 ::
  127 ::
  128 ::
  143 ::
  131 ::
  []
def eatenvIrM : List FuncId :=
  132 ::
  133 ::
  []
noncomputable def envIrM : Env := { P := Tryz.prog, G := gAll, inl := inlenvIrM, unr := [], ded := true, eat := eatenvIrM }
/-- atlas/atlasref03.Few -/
def atlasref03_Few_ir : IR :=
  (.lt (.len (.v 1)) (.lt (.bin .leq (.v 2) (.c (.i .i64 300))) (.ret [(false, [(.v 3)])])))
theorem atlasref03_Few_c : compile envIrM 3000 25 = .ok atlasref03_Few_ir := by kernel_rfl
theorem atlasref03_Few_p : paramShape Tryz.prog 25 = some [(true, 2)] := by kernel_rfl
theorem atlasref03_Few_k : Known gAll 25 (.ir [(true, 2)] atlasref03_Few_ir) := known_ir (E := envIrM) (n := 3000) rfl rfl atlasref03_Few_c atlasref03_Few_p
/-- atlas/atlasref03.Right -/
def atlasref03_Right_ir : IR :=
  (.lt (.bin .rem (.v 0) (.c (.i .u64 4096))) (.lt (.bin .neq (.v 2) (.c (.i .u64 0))) (.ite (.v 3)
  (.ret [(false, [(.c (.b false))])])
  (.lt (.bin .gtr (.v 0) (.c (.i .u64 1099511627776))) (.ite (.v 4)
  (.ret [(false, [(.c (.b false))])])
  (.loop [(.c (.b false)), (.c (.i .i64 0))]
  (.lt (.len (.v 1)) (.lt (.bin .lss (.v 6) (.v 7)) (.ite (.v 8)
  (.chk (.inb (.v 1) (.v 6) 2) (.lt (.bin .eql (.idx (.v 1) (.v 6) 1) (.c (.i .u64 0))) (.ite (.v 9)
  (.ret [(false, [(.c (.b false))])])
  (.chk (.inb (.v 1) (.v 6) 2) (.lt (.bin .quo (.v 0) (.c (.i .u64 8))) (.lt (.bin .geq (.idx (.v 1) (.v 6) 0) (.v 10)) (.ite (.v 11)
  (.ret [(false, [(.c (.b false))])])
  (.lt (.bin .gtr (.v 6) (.c (.i .i64 0))) (.ite (.v 12)
  (.chk (.inb (.v 1) (.v 6) 2) (.lt (.bin .sub (.v 6) (.c (.i .i64 1))) (.chk (.inb (.v 1) (.v 13) 2) (.lt (.bin .leq (.idx (.v 1) (.v 6) 0) (.idx (.v 1) (.v 13) 0)) (.ite (.v 14)
  (.ret [(false, [(.c (.b false))])])
  (.lt (.bin .add (.v 6) (.c (.i .i64 1))) (.cont 0 [(.v 5), (.v 15)])))))))
  (.lt (.bin .add (.v 6) (.c (.i .i64 1))) (.cont 0 [(.v 5), (.v 13)])))))))))))
  (.ret [(false, [(.c (.b true))])]))))))))))
theorem atlasref03_Right_c : compile envIrM 3000 19 = .ok atlasref03_Right_ir := by kernel_rfl
theorem atlasref03_Right_p : paramShape Tryz.prog 19 = some [(true, 2)] := by kernel_rfl
theorem atlasref03_Right_k : Known gAll 19 (.ir [(true, 2)] atlasref03_Right_ir) := known_ir (E := envIrM) (n := 3000) rfl rfl atlasref03_Right_c atlasref03_Right_p
/-- atlas/atlasref03.Same -/
def atlasref03_Same_ir : IR :=
  (.lt (.bin .neq (.v 0) (.v 2)) (.ite (.v 4)
  (.ret [(false, [(.c (.b false))])])
  (.lt (.len (.v 1)) (.lt (.len (.v 3)) (.lt (.bin .neq (.v 5) (.v 6)) (.ite (.v 7)
  (.ret [(false, [(.c (.b false))])])
  (.loop [(.c (.b false)), (.c (.i .i64 0))]
  (.lt (.len (.v 1)) (.lt (.bin .lss (.v 9) (.v 10)) (.ite (.v 11)
  (.chk (.inb (.v 1) (.v 9) 2) (.chk (.inb (.v 3) (.v 9) 2) (.lt (.un .not (.ite (.eqt false (.idx (.v 1) (.v 9) 0) (.idx (.v 3) (.v 9) 0)) (.ite (.eqt false (.idx (.v 1) (.v 9) 1) (.idx (.v 3) (.v 9) 1)) (.c (.b true)) (.c (.b false))) (.c (.b false)))) (.ite (.v 12)
  (.ret [(false, [(.c (.b false))])])
  (.lt (.bin .add (.v 9) (.c (.i .i64 1))) (.cont 0 [(.v 8), (.v 13)]))))))
  (.ret [(false, [(.c (.b true))])])))))))))))
theorem atlasref03_Same_c : compile envIrM 3000 15 = .ok atlasref03_Same_ir := by kernel_rfl
theorem atlasref03_Same_p : paramShape Tryz.prog 15 = some [(true, 2), (true, 2)] := by kernel_rfl
theorem atlasref03_Same_k : Known gAll 15 (.ir [(true, 2), (true, 2)] atlasref03_Same_ir) := known_ir (E := envIrM) (n := 3000) rfl rfl atlasref03_Same_c atlasref03_Same_p
/-- atlas/mem.Load -/
def mem_Load_ir : IR :=
  (.call 91 [(true, [(.v 0), (.v 1)]), (false, [(.v 2)]), (false, [(.v 3)])] [(false, 1)]
  (.lt (.bin .neq (.v 4) (.c (.i .i64 0))) (.ite (.v 5)
  (.ret [(false, [(.c (.i .u64 0))]), (false, [(.v 4)])])
  (.call 56 [(true, [(.v 0), (.v 1)]), (false, [(.v 2)])] [(false, 1)]
  (.lt (.bin .rem (.v 2) (.c (.i .u64 8))) (.lt (.cv .i64 (.v 7)) (.lt (.bin .mul (.v 8) (.c (.i .i64 8))) (.lt (.bin .mul (.v 3) (.c (.i .i64 8))) (.call 79 [(false, [(.v 6)]), (false, [(.v 9)]), (false, [(.v 10)])] [(false, 1)]
  (.ret [(false, [(.v 11)]), (false, [(.c (.i .i64 0))])]))))))))))
theorem mem_Load_c : compile envIrM 3000 51 = .ok mem_Load_ir := by kernel_rfl
theorem mem_Load_p : paramShape Tryz.prog 51 = some [(true, 2), (false, 1), (false, 1)] := by kernel_rfl
theorem mem_Load_k : Known gAll 51 (.ir [(true, 2), (false, 1), (false, 1)] mem_Load_ir) := known_ir (E := envIrM) (n := 3000) rfl rfl mem_Load_c mem_Load_p
/-- atlas/mem.Store -/
def mem_Store_ir : IR :=
  (.call 91 [(true, [(.v 0), (.v 1)]), (false, [(.v 2)]), (false, [(.v 3)])] [(false, 1)]
  (.lt (.bin .neq (.v 5) (.c (.i .i64 0))) (.ite (.v 6)
  (.ret [(true, [(.v 0), (.v 1)]), (false, [(.v 5)])])
  (.lt (.bin .quo (.v 2) (.c (.i .u64 8))) (.call 56 [(true, [(.v 0), (.v 1)]), (false, [(.v 2)])] [(false, 1)]
  (.lt (.bin .rem (.v 2) (.c (.i .u64 8))) (.lt (.cv .i64 (.v 9)) (.lt (.bin .mul (.v 10) (.c (.i .i64 8))) (.lt (.bin .mul (.v 3) (.c (.i .i64 8))) (.call 98 [(false, [(.v 8)]), (false, [(.v 11)]), (false, [(.v 12)]), (false, [(.v 4)])] [(false, 1)]
  (.call 99 [(true, [(.v 0), (.v 1)]), (false, [(.v 7)]), (false, [(.v 13)])] [(true, 2)]
  (.ret [(true, [(.v 14), (.v 15)]), (false, [(.c (.i .i64 0))])]))))))))))))
theorem mem_Store_c : compile envIrM 3000 58 = .ok mem_Store_ir := by kernel_rfl
theorem mem_Store_p : paramShape Tryz.prog 58 = some [(true, 2), (false, 1), (false, 1), (false, 1)] := by kernel_rfl
theorem mem_Store_k : Known gAll 58 (.ir [(true, 2), (false, 1), (false, 1), (false, 1)] mem_Store_ir) := known_ir (E := envIrM) (n := 3000) rfl rfl mem_Store_c mem_Store_p
/-- atlas/mem.Word -/
def mem_Word_ir : IR :=
  (.lt (.bin .quo (.v 2) (.c (.i .u64 8))) (.call 95 [(true, [(.v 0), (.v 1)]), (false, [(.v 3)])] [(false, 1), (false, 1)]
  (.lt (.un .not (.v 5)) (.ite (.v 6)
  (.ret [(false, [(.c (.i .u64 0))])])
  (.lt (.bin .geq (.v 2) (.v 0)) (.ite (.v 7)
  (.ret [(false, [(.c (.i .u64 0))])])
  (.chk (.inb (.v 1) (.v 4) 2) (.ret [(false, [(.idx (.v 1) (.v 4) 1)])]))))))))
theorem mem_Word_c : compile envIrM 3000 56 = .ok mem_Word_ir := by kernel_rfl
theorem mem_Word_p : paramShape Tryz.prog 56 = some [(true, 2), (false, 1)] := by kernel_rfl
theorem mem_Word_k : Known gAll 56 (.ir [(true, 2), (false, 1)] mem_Word_ir) := known_ir (E := envIrM) (n := 3000) rfl rfl mem_Word_c mem_Word_p
/-- atlas/atlasref03.Word -/
def atlasref03_Word_ir : IR :=
  (.lt (.bin .geq (.v 2) (.v 0)) (.ite (.v 3)
  (.ret [(false, [(.c (.i .u64 0))])])
  (.lt (.len (.v 1)) (.loop [(.c (.i .u64 0)), (.c (.i .i64 0)), (.v 4)]
  (.lt (.bin .lss (.v 6) (.v 7)) (.ite (.v 8)
  (.lt (.bin .add (.v 6) (.v 7)) (.lt (.bin .quo (.v 9) (.c (.i .i64 2))) (.chk (.inb (.v 1) (.v 10) 2) (.lt (.bin .quo (.v 2) (.c (.i .u64 8))) (.lt (.bin .eql (.idx (.v 1) (.v 10) 0) (.v 11)) (.ite (.v 12)
  (.chk (.inb (.v 1) (.v 10) 2) (.ret [(false, [(.idx (.v 1) (.v 10) 1)])]))
  (.chk (.inb (.v 1) (.v 10) 2) (.lt (.bin .quo (.v 2) (.c (.i .u64 8))) (.lt (.bin .lss (.idx (.v 1) (.v 10) 0) (.v 13)) (.ite (.v 14)
  (.lt (.bin .add (.v 10) (.c (.i .i64 1))) (.cont 0 [(.v 5), (.v 15), (.v 7)]))
  (.cont 0 [(.v 5), (.v 6), (.v 10)])))))))))))
  (.ret [(false, [(.c (.i .u64 0))])])))))))
theorem atlasref03_Word_c : compile envIrM 3000 17 = .ok atlasref03_Word_ir := by kernel_rfl
theorem atlasref03_Word_p : paramShape Tryz.prog 17 = some [(true, 2), (false, 1)] := by kernel_rfl
theorem atlasref03_Word_k : Known gAll 17 (.ir [(true, 2), (false, 1)] atlasref03_Word_ir) := known_ir (E := envIrM) (n := 3000) rfl rfl atlasref03_Word_c atlasref03_Word_p
/-- atlas/atlasref02.Pick -/
def atlasref02_Pick_ir : IR :=
  (.lt (.bin .rem (.v 0) (.c (.i .u8 4))) (.chk (.inb (.cat (.one [(.c (.i .i64 1))]) (.cat (.one [(.c (.i .i64 2))]) (.cat (.one [(.c (.i .i64 4))]) (.one [(.c (.i .i64 8))])))) (.v 1) 1) (.chk (.inb (.cat (.one [(.c (.i .i64 1))]) (.cat (.one [(.c (.i .i64 2))]) (.cat (.one [(.c (.i .i64 4))]) (.one [(.c (.i .i64 8))])))) (.v 1) 1) (.ret [(false, [(.idx (.cat (.one [(.c (.i .i64 1))]) (.cat (.one [(.c (.i .i64 2))]) (.cat (.one [(.c (.i .i64 4))]) (.one [(.c (.i .i64 8))])))) (.v 1) 0)])]))))
theorem atlasref02_Pick_c : compile envIrM 3000 20 = .ok atlasref02_Pick_ir := by kernel_rfl
theorem atlasref02_Pick_p : paramShape Tryz.prog 20 = some [(false, 1)] := by kernel_rfl
theorem atlasref02_Pick_k : Known gAll 20 (.ir [(false, 1)] atlasref02_Pick_ir) := known_ir (E := envIrM) (n := 3000) rfl rfl atlasref02_Pick_c atlasref02_Pick_p
/-- atlas/mem.wrong -/
def mem_wrong_ir : IR :=
  (.call 125 [(false, [(.v 3)])] [(false, 1)]
  (.lt (.un .not (.v 4)) (.ite (.v 5)
  (.ret [(false, [(.c (.i .i64 1))])])
  (.lt (.cv .u64 (.v 3)) (.call 42 [(false, [(.v 2)]), (false, [(.v 6)])] [(false, 1)]
  (.lt (.un .not (.v 7)) (.ite (.v 8)
  (.ret [(false, [(.c (.i .i64 2))])])
  (.lt (.bin .geq (.v 2) (.v 0)) (.ite (.v 9)
  (.ret [(false, [(.c (.i .i64 3))])])
  (.ret [(false, [(.c (.i .i64 0))])]))))))))))
theorem mem_wrong_c : compile envIrM 3000 91 = .ok mem_wrong_ir := by kernel_rfl
theorem mem_wrong_p : paramShape Tryz.prog 91 = some [(true, 2), (false, 1), (false, 1)] := by kernel_rfl
theorem mem_wrong_k : Known gAll 91 (.ir [(true, 2), (false, 1), (false, 1)] mem_wrong_ir) := known_ir (E := envIrM) (n := 3000) rfl rfl mem_wrong_c mem_wrong_p
/-- atlas/mem.put -/
def mem_put_ir : IR :=
  (.call 95 [(true, [(.v 0), (.v 1)]), (false, [(.v 2)])] [(false, 1), (false, 1)]
  (.may (.bin .eql (.len (.v 1)) (.c (.i .i64 0)))
  (.ite (.v 5)
  (.lt (.bin .eql (.v 3) (.c (.i .u64 0))) (.ite (.v 6)
  (.lt (.bin .add (.v 4) (.c (.i .i64 1))) (.chk (.eqt false (.v 4) (.v 4)) (.chk (.eqt false (.v 7) (.v 7)) (.call (eatOff + 132) [(false, [(.c (.sl 0 []))]), (false, [(.v 4)]), (false, [(.v 7)])] [(false, 1)]
  (.ret [(true, [(.v 0), (.v 8)])])))))
  (.ite (.v 5)
  (.chk (.inb (.c (.sl 0 [])) (.v 4) 2) (.chk (.c (.b false)) (.ret [])))
  (.lt (.bin .neq (.v 3) (.c (.i .u64 0))) (.ite (.v 7)
  (.chk (.eqt false (.v 4) (.v 4)) (.call (eatOff + 133) [(false, [(.c (.sl 0 []))]), (false, [(.v 4)]), (false, [(.one [(.v 2), (.v 3)])])] [(false, 1)]
  (.ret [(true, [(.v 0), (.v 8)])])))
  (.ret [(true, [(.v 0), (.c (.sl 0 []))])]))))))
  (.ite (.v 5)
  (.chk (.inb (.c (.sl 0 [])) (.v 4) 2) (.chk (.c (.b false)) (.ret [])))
  (.lt (.bin .neq (.v 3) (.c (.i .u64 0))) (.ite (.v 6)
  (.chk (.eqt false (.v 4) (.v 4)) (.call (eatOff + 133) [(false, [(.c (.sl 0 []))]), (false, [(.v 4)]), (false, [(.one [(.v 2), (.v 3)])])] [(false, 1)]
  (.ret [(true, [(.v 0), (.v 7)])])))
  (.ret [(true, [(.v 0), (.c (.sl 0 []))])])))))
  (.chk (.room (.len (.app 2 (.c (.sl 2 [])) (.v 1))) 17) (.ite (.v 5)
  (.lt (.bin .eql (.v 3) (.c (.i .u64 0))) (.ite (.v 6)
  (.lt (.bin .add (.v 4) (.c (.i .i64 1))) (.chk (.eqt false (.v 4) (.v 4)) (.chk (.eqt false (.v 7) (.v 7)) (.call (eatOff + 132) [(false, [(.app 2 (.c (.sl 2 [])) (.v 1))]), (false, [(.v 4)]), (false, [(.v 7)])] [(false, 1)]
  (.ret [(true, [(.v 0), (.v 8)])])))))
  (.ite (.v 5)
  (.chk (.inb (.app 2 (.c (.sl 2 [])) (.v 1)) (.v 4) 2) (.chk (.inb (.app 2 (.c (.sl 2 [])) (.v 1)) (.v 4) 2) (.ret [(true, [(.v 0), (.put (.app 2 (.c (.sl 2 [])) (.v 1)) (.v 4) 1 [(.v 3)])])])))
  (.lt (.bin .neq (.v 3) (.c (.i .u64 0))) (.ite (.v 7)
  (.chk (.eqt false (.v 4) (.v 4)) (.call (eatOff + 133) [(false, [(.app 2 (.c (.sl 2 [])) (.v 1))]), (false, [(.v 4)]), (false, [(.one [(.v 2), (.v 3)])])] [(false, 1)]
  (.ret [(true, [(.v 0), (.v 8)])])))
  (.ret [(true, [(.v 0), (.app 2 (.c (.sl 2 [])) (.v 1))])]))))))
  (.ite (.v 5)
  (.chk (.inb (.app 2 (.c (.sl 2 [])) (.v 1)) (.v 4) 2) (.chk (.inb (.app 2 (.c (.sl 2 [])) (.v 1)) (.v 4) 2) (.ret [(true, [(.v 0), (.put (.app 2 (.c (.sl 2 [])) (.v 1)) (.v 4) 1 [(.v 3)])])])))
  (.lt (.bin .neq (.v 3) (.c (.i .u64 0))) (.ite (.v 6)
  (.chk (.eqt false (.v 4) (.v 4)) (.call (eatOff + 133) [(false, [(.app 2 (.c (.sl 2 [])) (.v 1))]), (false, [(.v 4)]), (false, [(.one [(.v 2), (.v 3)])])] [(false, 1)]
  (.ret [(true, [(.v 0), (.v 7)])])))
  (.ret [(true, [(.v 0), (.app 2 (.c (.sl 2 [])) (.v 1))])]))))))))
theorem mem_put_c : compile envIrM 3000 99 = .ok mem_put_ir := by kernel_rfl
theorem mem_put_p : paramShape Tryz.prog 99 = some [(true, 2), (false, 1), (false, 1)] := by kernel_rfl
theorem mem_put_k : Known gAll 99 (.ir [(true, 2), (false, 1), (false, 1)] mem_put_ir) := known_ir (E := envIrM) (n := 3000) rfl rfl mem_put_c mem_put_p
/-- atlas/atlasref03.Set -/
def atlasref03_Set_ir : IR :=
  (.lt (.bin .eql (.v 3) (.c (.i .u64 0))) (.loop [(.v 4), (.c (.i .i64 0)), (.c (.sl 0 []))]
  (.lt (.len (.v 1)) (.lt (.bin .lss (.v 6) (.v 8)) (.ite (.v 9)
  (.lt (.un .not (.v 5)) (.ite (.v 10)
  (.chk (.inb (.v 1) (.v 6) 2) (.lt (.bin .gtr (.idx (.v 1) (.v 6) 0) (.v 2)) (.ite (.v 11)
  (.chk (.room (.len (.app 2 (.v 7) (.one [(.v 2), (.v 3)]))) 17) (.chk (.inb (.v 1) (.v 6) 2) (.lt (.bin .neq (.idx (.v 1) (.v 6) 0) (.v 2)) (.ite (.v 12)
  (.chk (.inb (.v 1) (.v 6) 2) (.chk (.room (.len (.app 2 (.app 2 (.v 7) (.one [(.v 2), (.v 3)])) (.one [(.idx (.v 1) (.v 6) 0), (.idx (.v 1) (.v 6) 1)]))) 17) (.lt (.bin .add (.v 6) (.c (.i .i64 1))) (.cont 0 [(.c (.b true)), (.v 13), (.app 2 (.app 2 (.v 7) (.one [(.v 2), (.v 3)])) (.one [(.idx (.v 1) (.v 6) 0), (.idx (.v 1) (.v 6) 1)]))]))))
  (.lt (.bin .add (.v 6) (.c (.i .i64 1))) (.cont 0 [(.c (.b true)), (.v 13), (.app 2 (.v 7) (.one [(.v 2), (.v 3)]))]))))))
  (.chk (.inb (.v 1) (.v 6) 2) (.lt (.bin .neq (.idx (.v 1) (.v 6) 0) (.v 2)) (.ite (.v 12)
  (.chk (.inb (.v 1) (.v 6) 2) (.chk (.room (.len (.app 2 (.v 7) (.one [(.idx (.v 1) (.v 6) 0), (.idx (.v 1) (.v 6) 1)]))) 17) (.lt (.bin .add (.v 6) (.c (.i .i64 1))) (.cont 0 [(.v 5), (.v 13), (.app 2 (.v 7) (.one [(.idx (.v 1) (.v 6) 0), (.idx (.v 1) (.v 6) 1)]))]))))
  (.lt (.bin .add (.v 6) (.c (.i .i64 1))) (.cont 0 [(.v 5), (.v 13), (.v 7)]))))))))
  (.chk (.inb (.v 1) (.v 6) 2) (.lt (.bin .neq (.idx (.v 1) (.v 6) 0) (.v 2)) (.ite (.v 11)
  (.chk (.inb (.v 1) (.v 6) 2) (.chk (.room (.len (.app 2 (.v 7) (.one [(.idx (.v 1) (.v 6) 0), (.idx (.v 1) (.v 6) 1)]))) 17) (.lt (.bin .add (.v 6) (.c (.i .i64 1))) (.cont 0 [(.v 5), (.v 12), (.app 2 (.v 7) (.one [(.idx (.v 1) (.v 6) 0), (.idx (.v 1) (.v 6) 1)]))]))))
  (.lt (.bin .add (.v 6) (.c (.i .i64 1))) (.cont 0 [(.v 5), (.v 12), (.v 7)])))))))
  (.lt (.un .not (.v 5)) (.ite (.v 10)
  (.chk (.room (.len (.app 2 (.v 7) (.one [(.v 2), (.v 3)]))) 17) (.ret [(true, [(.v 0), (.app 2 (.v 7) (.one [(.v 2), (.v 3)]))])]))
  (.ret [(true, [(.v 0), (.v 7)])]))))))))
theorem atlasref03_Set_c : compile envIrM 3000 69 = .ok atlasref03_Set_ir := by kernel_rfl
theorem atlasref03_Set_p : paramShape Tryz.prog 69 = some [(true, 2), (false, 1), (false, 1)] := by kernel_rfl
theorem atlasref03_Set_k : Known gAll 69 (.ir [(true, 2), (false, 1), (false, 1)] atlasref03_Set_ir) := known_ir (E := envIrM) (n := 3000) rfl rfl atlasref03_Set_c atlasref03_Set_p
/-- atlas/mem.find -/
def mem_find_ir : IR :=
  (.lt (.len (.v 1)) (.loop [(.c (.i .i64 0)), (.v 3)]
  (.lt (.bin .lss (.v 4) (.v 5)) (.ite (.v 6)
  (.lt (.bin .add (.v 4) (.v 5)) (.lt (.cv .u64 (.v 7)) (.lt (.bin .shr (.v 8) (.c (.i .u64 1))) (.lt (.cv .i64 (.v 9)) (.chk (.inb (.v 1) (.v 10) 2) (.lt (.bin .neq (.idx (.v 1) (.v 10) 0) (.idx (.v 1) (.v 10) 0)) (.lt (.bin .neq (.v 2) (.v 2)) (.ite (.v 11)
  (.ite (.v 12)
  (.cont 0 [(.v 4), (.v 10)])
  (.lt (.bin .add (.v 10) (.c (.i .i64 1))) (.cont 0 [(.v 13), (.v 5)])))
  (.ite (.v 12)
  (.cont 0 [(.v 4), (.v 10)])
  (.lt (.bin .lss (.idx (.v 1) (.v 10) 0) (.v 2)) (.ite (.v 13)
  (.lt (.bin .add (.v 10) (.c (.i .i64 1))) (.cont 0 [(.v 14), (.v 5)]))
  (.lt (.bin .gtr (.idx (.v 1) (.v 10) 0) (.v 2)) (.ite (.v 14)
  (.cont 0 [(.v 4), (.v 10)])
  (.cont 0 [(.v 4), (.v 10)]))))))))))))))
  (.lt (.bin .lss (.v 4) (.v 3)) (.ite (.v 7)
  (.chk (.inb (.v 1) (.v 4) 2) (.lt (.bin .neq (.idx (.v 1) (.v 4) 0) (.idx (.v 1) (.v 4) 0)) (.lt (.bin .neq (.v 2) (.v 2)) (.ite (.v 8)
  (.ite (.v 9)
  (.ret [(false, [(.v 4)]), (false, [(.c (.b true))])])
  (.ret [(false, [(.v 4)]), (false, [(.c (.b false))])]))
  (.ite (.v 9)
  (.ret [(false, [(.v 4)]), (false, [(.c (.b false))])])
  (.lt (.bin .lss (.idx (.v 1) (.v 4) 0) (.v 2)) (.ite (.v 10)
  (.ret [(false, [(.v 4)]), (false, [(.c (.b false))])])
  (.lt (.bin .gtr (.idx (.v 1) (.v 4) 0) (.v 2)) (.ite (.v 11)
  (.ret [(false, [(.v 4)]), (false, [(.c (.b false))])])
  (.ret [(false, [(.v 4)]), (false, [(.c (.b true))])]))))))))))
  (.ret [(false, [(.v 4)]), (false, [(.c (.b false))])])))))))
theorem mem_find_c : compile envIrM 3000 95 = .ok mem_find_ir := by kernel_rfl
theorem mem_find_p : paramShape Tryz.prog 95 = some [(true, 2), (false, 1)] := by kernel_rfl
theorem mem_find_k : Known gAll 95 (.ir [(true, 2), (false, 1)] mem_find_ir) := known_ir (E := envIrM) (n := 3000) rfl rfl mem_find_c mem_find_p
/-- atlas/bytes.Size -/
def bytes_Size_ir : IR :=
  (.lt (.bin .eql (.v 0) (.c (.i .i64 1))) (.ite (.v 1)
  (.ret [(false, [(.c (.b true))])])
  (.lt (.bin .eql (.v 0) (.c (.i .i64 2))) (.ite (.v 2)
  (.ret [(false, [(.c (.b true))])])
  (.lt (.bin .eql (.v 0) (.c (.i .i64 4))) (.ite (.v 3)
  (.ret [(false, [(.c (.b true))])])
  (.lt (.bin .eql (.v 0) (.c (.i .i64 8))) (.ret [(false, [(.v 4)])]))))))))
theorem bytes_Size_c : compile envIrM 3000 125 = .ok bytes_Size_ir := by kernel_rfl
theorem bytes_Size_p : paramShape Tryz.prog 125 = some [(false, 1)] := by kernel_rfl
theorem bytes_Size_k : Known gAll 125 (.ir [(false, 1)] bytes_Size_ir) := known_ir (E := envIrM) (n := 3000) rfl rfl bytes_Size_c bytes_Size_p
def inlenvIrMB : List FuncId :=
  []
noncomputable def envIrMB : Env := { P := Tryz.prog, G := gAll, inl := inlenvIrMB, unr := [], ded := true }
def TIrM : Tbl :=
  (25, .ir [(true, 2)] atlasref03_Few_ir) ::
  (19, .ir [(true, 2)] atlasref03_Right_ir) ::
  (15, .ir [(true, 2), (true, 2)] atlasref03_Same_ir) ::
  (51, .ir [(true, 2), (false, 1), (false, 1)] mem_Load_ir) ::
  (58, .ir [(true, 2), (false, 1), (false, 1), (false, 1)] mem_Store_ir) ::
  (56, .ir [(true, 2), (false, 1)] mem_Word_ir) ::
  (17, .ir [(true, 2), (false, 1)] atlasref03_Word_ir) ::
  (20, .ir [(false, 1)] atlasref02_Pick_ir) ::
  (91, .ir [(true, 2), (false, 1), (false, 1)] mem_wrong_ir) ::
  (99, .ir [(true, 2), (false, 1), (false, 1)] mem_put_ir) ::
  (69, .ir [(true, 2), (false, 1), (false, 1)] atlasref03_Set_ir) ::
  (95, .ir [(true, 2), (false, 1)] mem_find_ir) ::
  (125, .ir [(false, 1)] bytes_Size_ir) ::
  []
theorem TIrM_ok : ∀ x ∈ TIrM, Known gAll x.1 x.2 :=
  kcons atlasref03_Few_k <|
  kcons atlasref03_Right_k <|
  kcons atlasref03_Same_k <|
  kcons mem_Load_k <|
  kcons mem_Store_k <|
  kcons mem_Word_k <|
  kcons atlasref03_Word_k <|
  kcons atlasref02_Pick_k <|
  kcons mem_wrong_k <|
  kcons mem_put_k <|
  kcons atlasref03_Set_k <|
  kcons mem_find_k <|
  kcons bytes_Size_k <|
  fun _ h => nomatch h
end Go.Proofs.YtngpjdieelcbmaaGreatDoor.Sx
