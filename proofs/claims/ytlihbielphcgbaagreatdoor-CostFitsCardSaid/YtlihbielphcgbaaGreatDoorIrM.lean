/-
  IRs of functions, printed by a program of mine (wip/tools/mkir.py, ev.run.lean); each is checked by the kernel against the executor.
-/
import Derived.Test.YtlihbielphcgbaaGreatDoorBf
import Derived.Test.YtlihbielphcgbaaGreatDoorProg
namespace Go.Proofs.YtlihbielphcgbaaGreatDoor.Sx
open Go
set_option maxRecDepth 100000
def inlenvIrM : List FuncId :=
  145 ::
  146 ::
  100 ::
  121 ::
  127 ::
  []
def eatenvIrM : List FuncId :=
  128 ::
  129 ::
  []
noncomputable def envIrM : Env := { P := Tryz.prog, G := gAll, inl := inlenvIrM, unr := [], ded := true, eat := eatenvIrM }
/-- atlas/mem.Load -/
def mem_Load_ir : IR :=
  (.call 112 [(true, [(.v 0), (.v 1)]), (false, [(.v 2)]), (false, [(.v 3)])] [(false, 1)]
  (.lt (.bin .neq (.v 4) (.c (.i .i64 0))) (.ite (.v 5)
  (.ret [(false, [(.c (.i .u64 0))]), (false, [(.v 4)])])
  (.call 113 [(true, [(.v 0), (.v 1)]), (false, [(.v 2)])] [(false, 1)]
  (.lt (.bin .rem (.v 2) (.c (.i .u64 8))) (.lt (.cv .i64 (.v 7)) (.lt (.bin .mul (.v 8) (.c (.i .i64 8))) (.lt (.bin .mul (.v 3) (.c (.i .i64 8))) (.call 85 [(false, [(.v 6)]), (false, [(.v 9)]), (false, [(.v 10)])] [(false, 1)]
  (.ret [(false, [(.v 11)]), (false, [(.c (.i .i64 0))])]))))))))))
theorem mem_Load_c : compile envIrM 3000 82 = .ok mem_Load_ir := by kernel_rfl
theorem mem_Load_p : paramShape Tryz.prog 82 = some [(true, 2), (false, 1), (false, 1)] := by kernel_rfl
theorem mem_Load_k : Known gAll 82 (.ir [(true, 2), (false, 1), (false, 1)] mem_Load_ir) := known_ir (E := envIrM) (n := 3000) rfl rfl mem_Load_c mem_Load_p
/-- atlas/atlasref03.Load -/
def atlasref03_Load_ir : IR :=
  (.call 89 [(true, [(.v 0), (.v 1)]), (false, [(.v 2)]), (false, [(.v 3)])] [(false, 1)]
  (.lt (.bin .neq (.v 4) (.c (.i .i64 0))) (.ite (.v 5)
  (.ret [(false, [(.c (.i .u64 0))]), (false, [(.v 4)])])
  (.loop [(.c (.i .i64 0)), (.c (.sl 0 []))]
  (.lt (.bin .lss (.v 6) (.v 3)) (.ite (.v 8)
  (.lt (.cv .u64 (.v 6)) (.lt (.bin .add (.v 2) (.v 9)) (.call 90 [(true, [(.v 0), (.v 1)]), (false, [(.v 10)])] [(false, 1)]
  (.chk (.room (.len (.app 1 (.v 7) (.one [(.v 11)]))) 2) (.lt (.bin .add (.v 6) (.c (.i .i64 1))) (.cont 0 [(.v 12), (.app 1 (.v 7) (.one [(.v 11)]))]))))))
  (.call 91 [(false, [(.v 7)])] [(false, 1)]
  (.chk (.eqt false (.v 9) (.v 9)) (.ret [(false, [(.v 9)]), (false, [(.c (.i .i64 0))])])))))))))
theorem atlasref03_Load_c : compile envIrM 3000 52 = .ok atlasref03_Load_ir := by kernel_rfl
theorem atlasref03_Load_p : paramShape Tryz.prog 52 = some [(true, 2), (false, 1), (false, 1)] := by kernel_rfl
theorem atlasref03_Load_k : Known gAll 52 (.ir [(true, 2), (false, 1), (false, 1)] atlasref03_Load_ir) := known_ir (E := envIrM) (n := 3000) rfl rfl atlasref03_Load_c atlasref03_Load_p
/-- atlas/mem.Store -/
def mem_Store_ir : IR :=
  (.call 112 [(true, [(.v 0), (.v 1)]), (false, [(.v 2)]), (false, [(.v 3)])] [(false, 1)]
  (.lt (.bin .neq (.v 5) (.c (.i .i64 0))) (.ite (.v 6)
  (.ret [(true, [(.v 0), (.v 1)]), (false, [(.v 5)])])
  (.lt (.bin .quo (.v 2) (.c (.i .u64 8))) (.call 113 [(true, [(.v 0), (.v 1)]), (false, [(.v 2)])] [(false, 1)]
  (.lt (.bin .rem (.v 2) (.c (.i .u64 8))) (.lt (.cv .i64 (.v 9)) (.lt (.bin .mul (.v 10) (.c (.i .i64 8))) (.lt (.bin .mul (.v 3) (.c (.i .i64 8))) (.call 115 [(false, [(.v 8)]), (false, [(.v 11)]), (false, [(.v 12)]), (false, [(.v 4)])] [(false, 1)]
  (.call 114 [(true, [(.v 0), (.v 1)]), (false, [(.v 7)]), (false, [(.v 13)])] [(true, 2)]
  (.ret [(true, [(.v 14), (.v 15)]), (false, [(.c (.i .i64 0))])]))))))))))))
theorem mem_Store_c : compile envIrM 3000 84 = .ok mem_Store_ir := by kernel_rfl
theorem mem_Store_p : paramShape Tryz.prog 84 = some [(true, 2), (false, 1), (false, 1), (false, 1)] := by kernel_rfl
theorem mem_Store_k : Known gAll 84 (.ir [(true, 2), (false, 1), (false, 1), (false, 1)] mem_Store_ir) := known_ir (E := envIrM) (n := 3000) rfl rfl mem_Store_c mem_Store_p
/-- atlas/mem.Word -/
def mem_Word_ir : IR :=
  (.lt (.bin .quo (.v 2) (.c (.i .u64 8))) (.call 126 [(true, [(.v 0), (.v 1)]), (false, [(.v 3)])] [(false, 1), (false, 1)]
  (.lt (.un .not (.v 5)) (.ite (.v 6)
  (.ret [(false, [(.c (.i .u64 0))])])
  (.lt (.bin .geq (.v 2) (.v 0)) (.ite (.v 7)
  (.ret [(false, [(.c (.i .u64 0))])])
  (.chk (.inb (.v 1) (.v 4) 2) (.ret [(false, [(.idx (.v 1) (.v 4) 1)])]))))))))
theorem mem_Word_c : compile envIrM 3000 113 = .ok mem_Word_ir := by kernel_rfl
theorem mem_Word_p : paramShape Tryz.prog 113 = some [(true, 2), (false, 1)] := by kernel_rfl
theorem mem_Word_k : Known gAll 113 (.ir [(true, 2), (false, 1)] mem_Word_ir) := known_ir (E := envIrM) (n := 3000) rfl rfl mem_Word_c mem_Word_p
/-- atlas/atlasref03.Word -/
def atlasref03_Word_ir : IR :=
  (.lt (.bin .geq (.v 2) (.v 0)) (.ite (.v 3)
  (.ret [(false, [(.c (.i .u64 0))])])
  (.lt (.len (.v 1)) (.loop [(.c (.i .u64 0)), (.c (.i .i64 0)), (.v 4)]
  (.lt (.bin .lss (.v 6) (.v 7)) (.ite (.v 8)
  (.lt (.bin .add (.v 6) (.v 7)) (.lt (.bin .quo (.v 9) (.c (.i .i64 2))) (.chk (.inb (.v 1) (.v 10) 2) (.lt (.bin .quo (.v 2) (.c (.i .u64 8))) (.lt (.bin .eql (.idx (.v 1) (.v 10) 0) (.v 11)) (.ite (.v 12)
  (.chk (.inb (.v 1) (.v 10) 2) (.ret [(false, [(.idx (.v 1) (.v 10) 1)])]))
  (.chk (.inb (.v 1) (.v 10) 2) (.lt (.bin .quo (.v 2) (.c (.i .u64 8))) (.lt (.bin .lss (.idx (.v 1) (.v 10) 0) (.v 13)) (.ite (.v 14)
  (.lt (.bin .add (.v 10) (.c (.i .i64 1))) (.cont 0 [(.v 5), (.v 15), (.v 7)]))
  (.cont 0 [(.v 5), (.v 6), (.v 10)])))))))))))
  (.ret [(false, [(.c (.i .u64 0))])])))))))
theorem atlasref03_Word_c : compile envIrM 3000 93 = .ok atlasref03_Word_ir := by kernel_rfl
theorem atlasref03_Word_p : paramShape Tryz.prog 93 = some [(true, 2), (false, 1)] := by kernel_rfl
theorem atlasref03_Word_k : Known gAll 93 (.ir [(true, 2), (false, 1)] atlasref03_Word_ir) := known_ir (E := envIrM) (n := 3000) rfl rfl atlasref03_Word_c atlasref03_Word_p
/-- atlas/mem.wrong -/
def mem_wrong_ir : IR :=
  (.call 77 [(false, [(.v 3)])] [(false, 1)]
  (.lt (.un .not (.v 4)) (.ite (.v 5)
  (.ret [(false, [(.c (.i .i64 1))])])
  (.lt (.cv .u64 (.v 3)) (.call 68 [(false, [(.v 2)]), (false, [(.v 6)])] [(false, 1)]
  (.lt (.un .not (.v 7)) (.ite (.v 8)
  (.ret [(false, [(.c (.i .i64 2))])])
  (.lt (.bin .geq (.v 2) (.v 0)) (.ite (.v 9)
  (.ret [(false, [(.c (.i .i64 3))])])
  (.ret [(false, [(.c (.i .i64 0))])]))))))))))
theorem mem_wrong_c : compile envIrM 3000 112 = .ok mem_wrong_ir := by kernel_rfl
theorem mem_wrong_p : paramShape Tryz.prog 112 = some [(true, 2), (false, 1), (false, 1)] := by kernel_rfl
theorem mem_wrong_k : Known gAll 112 (.ir [(true, 2), (false, 1), (false, 1)] mem_wrong_ir) := known_ir (E := envIrM) (n := 3000) rfl rfl mem_wrong_c mem_wrong_p
/-- atlas/atlasref03.wrong -/
def atlasref03_wrong_ir : IR :=
  (.call 48 [(false, [(.v 3)])] [(false, 1)]
  (.lt (.un .not (.v 4)) (.ite (.v 5)
  (.ret [(false, [(.c (.i .i64 1))])])
  (.lt (.cv .u64 (.v 3)) (.lt (.bin .rem (.v 2) (.v 6)) (.lt (.bin .neq (.v 7) (.c (.i .u64 0))) (.ite (.v 8)
  (.ret [(false, [(.c (.i .i64 2))])])
  (.lt (.bin .geq (.v 2) (.v 0)) (.ite (.v 9)
  (.ret [(false, [(.c (.i .i64 3))])])
  (.ret [(false, [(.c (.i .i64 0))])]))))))))))
theorem atlasref03_wrong_c : compile envIrM 3000 89 = .ok atlasref03_wrong_ir := by kernel_rfl
theorem atlasref03_wrong_p : paramShape Tryz.prog 89 = some [(true, 2), (false, 1), (false, 1)] := by kernel_rfl
theorem atlasref03_wrong_k : Known gAll 89 (.ir [(true, 2), (false, 1), (false, 1)] atlasref03_wrong_ir) := known_ir (E := envIrM) (n := 3000) rfl rfl atlasref03_wrong_c atlasref03_wrong_p
/-- atlas/atlasref03.Byte -/
def atlasref03_Byte_ir : IR :=
  (.call 93 [(true, [(.v 0), (.v 1)]), (false, [(.v 2)])] [(false, 1)]
  (.call 92 [(false, [(.v 3)]), (false, [(.c (.i .i64 8))])] [(false, 1)]
  (.lt (.bin .rem (.v 2) (.c (.i .u64 8))) (.chk (.inb (.v 4) (.v 5) 1) (.ret [(false, [(.idx (.v 4) (.v 5) 0)])])))))
theorem atlasref03_Byte_c : compile envIrM 3000 90 = .ok atlasref03_Byte_ir := by kernel_rfl
theorem atlasref03_Byte_p : paramShape Tryz.prog 90 = some [(true, 2), (false, 1)] := by kernel_rfl
theorem atlasref03_Byte_k : Known gAll 90 (.ir [(true, 2), (false, 1)] atlasref03_Byte_ir) := known_ir (E := envIrM) (n := 3000) rfl rfl atlasref03_Byte_c atlasref03_Byte_p
/-- atlas/atlasref02.Get -/
def atlasref02_Get_ir : IR :=
  (.lt (.len (.v 0)) (.lt (.ite (.bin .lss (.c (.i .i64 8)) (.v 1)) (.c (.i .i64 8)) (.v 1)) (.lt (.bin .sub (.v 2) (.c (.i .i64 1))) (.loop [(.c (.i .u64 0)), (.v 3)]
  (.lt (.bin .geq (.v 5) (.c (.i .i64 0))) (.ite (.v 6)
  (.lt (.bin .mul (.c (.i .u64 256)) (.v 4)) (.chk (.inb (.v 0) (.v 5) 1) (.lt (.cv .u64 (.idx (.v 0) (.v 5) 0)) (.lt (.bin .add (.v 7) (.v 8)) (.lt (.bin .sub (.v 5) (.c (.i .i64 1))) (.cont 0 [(.v 9), (.v 10)]))))))
  (.ret [(false, [(.v 4)])])))))))
theorem atlasref02_Get_c : compile envIrM 3000 91 = .ok atlasref02_Get_ir := by kernel_rfl
theorem atlasref02_Get_p : paramShape Tryz.prog 91 = some [(false, 1)] := by kernel_rfl
theorem atlasref02_Get_k : Known gAll 91 (.ir [(false, 1)] atlasref02_Get_ir) := known_ir (E := envIrM) (n := 3000) rfl rfl atlasref02_Get_c atlasref02_Get_p
/-- atlas/mem.put -/
def mem_put_ir : IR :=
  (.call 126 [(true, [(.v 0), (.v 1)]), (false, [(.v 2)])] [(false, 1), (false, 1)]
  (.may (.bin .eql (.len (.v 1)) (.c (.i .i64 0)))
  (.ite (.v 5)
  (.lt (.bin .eql (.v 3) (.c (.i .u64 0))) (.ite (.v 6)
  (.lt (.bin .add (.v 4) (.c (.i .i64 1))) (.chk (.eqt false (.v 4) (.v 4)) (.chk (.eqt false (.v 7) (.v 7)) (.call (eatOff + 128) [(false, [(.c (.sl 0 []))]), (false, [(.v 4)]), (false, [(.v 7)])] [(false, 1)]
  (.ret [(true, [(.v 0), (.v 8)])])))))
  (.ite (.v 5)
  (.chk (.inb (.c (.sl 0 [])) (.v 4) 2) (.chk (.c (.b false)) (.ret [])))
  (.lt (.bin .neq (.v 3) (.c (.i .u64 0))) (.ite (.v 7)
  (.chk (.eqt false (.v 4) (.v 4)) (.call (eatOff + 129) [(false, [(.c (.sl 0 []))]), (false, [(.v 4)]), (false, [(.one [(.v 2), (.v 3)])])] [(false, 1)]
  (.ret [(true, [(.v 0), (.v 8)])])))
  (.ret [(true, [(.v 0), (.c (.sl 0 []))])]))))))
  (.ite (.v 5)
  (.chk (.inb (.c (.sl 0 [])) (.v 4) 2) (.chk (.c (.b false)) (.ret [])))
  (.lt (.bin .neq (.v 3) (.c (.i .u64 0))) (.ite (.v 6)
  (.chk (.eqt false (.v 4) (.v 4)) (.call (eatOff + 129) [(false, [(.c (.sl 0 []))]), (false, [(.v 4)]), (false, [(.one [(.v 2), (.v 3)])])] [(false, 1)]
  (.ret [(true, [(.v 0), (.v 7)])])))
  (.ret [(true, [(.v 0), (.c (.sl 0 []))])])))))
  (.chk (.room (.len (.app 2 (.c (.sl 2 [])) (.v 1))) 17) (.ite (.v 5)
  (.lt (.bin .eql (.v 3) (.c (.i .u64 0))) (.ite (.v 6)
  (.lt (.bin .add (.v 4) (.c (.i .i64 1))) (.chk (.eqt false (.v 4) (.v 4)) (.chk (.eqt false (.v 7) (.v 7)) (.call (eatOff + 128) [(false, [(.app 2 (.c (.sl 2 [])) (.v 1))]), (false, [(.v 4)]), (false, [(.v 7)])] [(false, 1)]
  (.ret [(true, [(.v 0), (.v 8)])])))))
  (.ite (.v 5)
  (.chk (.inb (.app 2 (.c (.sl 2 [])) (.v 1)) (.v 4) 2) (.chk (.inb (.app 2 (.c (.sl 2 [])) (.v 1)) (.v 4) 2) (.ret [(true, [(.v 0), (.put (.app 2 (.c (.sl 2 [])) (.v 1)) (.v 4) 1 [(.v 3)])])])))
  (.lt (.bin .neq (.v 3) (.c (.i .u64 0))) (.ite (.v 7)
  (.chk (.eqt false (.v 4) (.v 4)) (.call (eatOff + 129) [(false, [(.app 2 (.c (.sl 2 [])) (.v 1))]), (false, [(.v 4)]), (false, [(.one [(.v 2), (.v 3)])])] [(false, 1)]
  (.ret [(true, [(.v 0), (.v 8)])])))
  (.ret [(true, [(.v 0), (.app 2 (.c (.sl 2 [])) (.v 1))])]))))))
  (.ite (.v 5)
  (.chk (.inb (.app 2 (.c (.sl 2 [])) (.v 1)) (.v 4) 2) (.chk (.inb (.app 2 (.c (.sl 2 [])) (.v 1)) (.v 4) 2) (.ret [(true, [(.v 0), (.put (.app 2 (.c (.sl 2 [])) (.v 1)) (.v 4) 1 [(.v 3)])])])))
  (.lt (.bin .neq (.v 3) (.c (.i .u64 0))) (.ite (.v 6)
  (.chk (.eqt false (.v 4) (.v 4)) (.call (eatOff + 129) [(false, [(.app 2 (.c (.sl 2 [])) (.v 1))]), (false, [(.v 4)]), (false, [(.one [(.v 2), (.v 3)])])] [(false, 1)]
  (.ret [(true, [(.v 0), (.v 7)])])))
  (.ret [(true, [(.v 0), (.app 2 (.c (.sl 2 [])) (.v 1))])]))))))))
theorem mem_put_c : compile envIrM 3000 114 = .ok mem_put_ir := by kernel_rfl
theorem mem_put_p : paramShape Tryz.prog 114 = some [(true, 2), (false, 1), (false, 1)] := by kernel_rfl
theorem mem_put_k : Known gAll 114 (.ir [(true, 2), (false, 1), (false, 1)] mem_put_ir) := known_ir (E := envIrM) (n := 3000) rfl rfl mem_put_c mem_put_p
theorem mem_put_n : compileN envIrM 3000 114 = .ok mem_put_ir := by kernel_rfl
/-- atlas/atlasref02.Put -/
def atlasref02_Put_ir : IR :=
  (.loop [(.v 0), (.c (.i .i64 0)), (.c (.sl 0 []))]
  (.lt (.bin .lss (.v 3) (.v 1)) (.ite (.v 5)
  (.lt (.bin .rem (.v 2) (.c (.i .u64 256))) (.lt (.cv .u8 (.v 6)) (.chk (.room (.len (.app 1 (.v 4) (.one [(.v 7)]))) 2) (.lt (.bin .quo (.v 2) (.c (.i .u64 256))) (.lt (.bin .add (.v 3) (.c (.i .i64 1))) (.cont 0 [(.v 8), (.v 9), (.app 1 (.v 4) (.one [(.v 7)]))]))))))
  (.ret [(false, [(.v 4)])]))))
theorem atlasref02_Put_c : compile envIrM 3000 92 = .ok atlasref02_Put_ir := by kernel_rfl
theorem atlasref02_Put_p : paramShape Tryz.prog 92 = some [(false, 1), (false, 1)] := by kernel_rfl
theorem atlasref02_Put_k : Known gAll 92 (.ir [(false, 1), (false, 1)] atlasref02_Put_ir) := known_ir (E := envIrM) (n := 3000) rfl rfl atlasref02_Put_c atlasref02_Put_p
/-- atlas/atlasref03.Set -/
def atlasref03_Set_ir : IR :=
  (.lt (.bin .eql (.v 3) (.c (.i .u64 0))) (.loop [(.v 4), (.c (.i .i64 0)), (.c (.sl 0 []))]
  (.lt (.len (.v 1)) (.lt (.bin .lss (.v 6) (.v 8)) (.ite (.v 9)
  (.lt (.un .not (.v 5)) (.ite (.v 10)
  (.chk (.inb (.v 1) (.v 6) 2) (.lt (.bin .gtr (.idx (.v 1) (.v 6) 0) (.v 2)) (.ite (.v 11)
  (.chk (.room (.len (.app 2 (.v 7) (.one [(.v 2), (.v 3)]))) 17) (.chk (.inb (.v 1) (.v 6) 2) (.lt (.bin .neq (.idx (.v 1) (.v 6) 0) (.v 2)) (.ite (.v 12)
  (.chk (.inb (.v 1) (.v 6) 2) (.chk (.room (.len (.app 2 (.app 2 (.v 7) (.one [(.v 2), (.v 3)])) (.one [(.idx (.v 1) (.v 6) 0), (.idx (.v 1) (.v 6) 1)]))) 17) (.lt (.bin .add (.v 6) (.c (.i .i64 1))) (.cont 0 [(.c (.b true)), (.v 13), (.app 2 (.app 2 (.v 7) (.one [(.v 2), (.v 3)])) (.one [(.idx (.v 1) (.v 6) 0), (.idx (.v 1) (.v 6) 1)]))]))))
  (.lt (.bin .add (.v 6) (.c (.i .i64 1))) (.cont 0 [(.c (.b true)), (.v 13), (.app 2 (.v 7) (.one [(.v 2), (.v 3)]))]))))))
  (.chk (.inb (.v 1) (.v 6) 2) (.lt (.bin .neq (.idx (.v 1) (.v 6) 0) (.v 2)) (.ite (.v 12)
  (.chk (.inb (.v 1) (.v 6) 2) (.chk (.room (.len (.app 2 (.v 7) (.one [(.idx (.v 1) (.v 6) 0), (.idx (.v 1) (.v 6) 1)]))) 17) (.lt (.bin .add (.v 6) (.c (.i .i64 1))) (.cont 0 [(.v 5), (.v 13), (.app 2 (.v 7) (.one [(.idx (.v 1) (.v 6) 0), (.idx (.v 1) (.v 6) 1)]))]))))
  (.lt (.bin .add (.v 6) (.c (.i .i64 1))) (.cont 0 [(.v 5), (.v 13), (.v 7)]))))))))
  (.chk (.inb (.v 1) (.v 6) 2) (.lt (.bin .neq (.idx (.v 1) (.v 6) 0) (.v 2)) (.ite (.v 11)
  (.chk (.inb (.v 1) (.v 6) 2) (.chk (.room (.len (.app 2 (.v 7) (.one [(.idx (.v 1) (.v 6) 0), (.idx (.v 1) (.v 6) 1)]))) 17) (.lt (.bin .add (.v 6) (.c (.i .i64 1))) (.cont 0 [(.v 5), (.v 12), (.app 2 (.v 7) (.one [(.idx (.v 1) (.v 6) 0), (.idx (.v 1) (.v 6) 1)]))]))))
  (.lt (.bin .add (.v 6) (.c (.i .i64 1))) (.cont 0 [(.v 5), (.v 12), (.v 7)])))))))
  (.lt (.un .not (.v 5)) (.ite (.v 10)
  (.chk (.room (.len (.app 2 (.v 7) (.one [(.v 2), (.v 3)]))) 17) (.ret [(true, [(.v 0), (.app 2 (.v 7) (.one [(.v 2), (.v 3)]))])]))
  (.ret [(true, [(.v 0), (.v 7)])]))))))))
theorem atlasref03_Set_c : compile envIrM 3000 94 = .ok atlasref03_Set_ir := by kernel_rfl
theorem atlasref03_Set_p : paramShape Tryz.prog 94 = some [(true, 2), (false, 1), (false, 1)] := by kernel_rfl
theorem atlasref03_Set_k : Known gAll 94 (.ir [(true, 2), (false, 1), (false, 1)] atlasref03_Set_ir) := known_ir (E := envIrM) (n := 3000) rfl rfl atlasref03_Set_c atlasref03_Set_p
/-- atlas/mem.find -/
def mem_find_ir : IR :=
  (.lt (.len (.v 1)) (.loop [(.c (.i .i64 0)), (.v 3)]
  (.lt (.bin .lss (.v 4) (.v 5)) (.ite (.v 6)
  (.lt (.bin .add (.v 4) (.v 5)) (.lt (.cv .u64 (.v 7)) (.lt (.bin .shr (.v 8) (.c (.i .u64 1))) (.lt (.cv .i64 (.v 9)) (.chk (.inb (.v 1) (.v 10) 2) (.lt (.bin .neq (.idx (.v 1) (.v 10) 0) (.idx (.v 1) (.v 10) 0)) (.lt (.bin .neq (.v 2) (.v 2)) (.ite (.v 11)
  (.ite (.v 12)
  (.cont 0 [(.v 4), (.v 10)])
  (.lt (.bin .add (.v 10) (.c (.i .i64 1))) (.cont 0 [(.v 13), (.v 5)])))
  (.ite (.v 12)
  (.cont 0 [(.v 4), (.v 10)])
  (.lt (.bin .lss (.idx (.v 1) (.v 10) 0) (.v 2)) (.ite (.v 13)
  (.lt (.bin .add (.v 10) (.c (.i .i64 1))) (.cont 0 [(.v 14), (.v 5)]))
  (.lt (.bin .gtr (.idx (.v 1) (.v 10) 0) (.v 2)) (.ite (.v 14)
  (.cont 0 [(.v 4), (.v 10)])
  (.cont 0 [(.v 4), (.v 10)]))))))))))))))
  (.lt (.bin .lss (.v 4) (.v 3)) (.ite (.v 7)
  (.chk (.inb (.v 1) (.v 4) 2) (.lt (.bin .neq (.idx (.v 1) (.v 4) 0) (.idx (.v 1) (.v 4) 0)) (.lt (.bin .neq (.v 2) (.v 2)) (.ite (.v 8)
  (.ite (.v 9)
  (.ret [(false, [(.v 4)]), (false, [(.c (.b true))])])
  (.ret [(false, [(.v 4)]), (false, [(.c (.b false))])]))
  (.ite (.v 9)
  (.ret [(false, [(.v 4)]), (false, [(.c (.b false))])])
  (.lt (.bin .lss (.idx (.v 1) (.v 4) 0) (.v 2)) (.ite (.v 10)
  (.ret [(false, [(.v 4)]), (false, [(.c (.b false))])])
  (.lt (.bin .gtr (.idx (.v 1) (.v 4) 0) (.v 2)) (.ite (.v 11)
  (.ret [(false, [(.v 4)]), (false, [(.c (.b false))])])
  (.ret [(false, [(.v 4)]), (false, [(.c (.b true))])]))))))))))
  (.ret [(false, [(.v 4)]), (false, [(.c (.b false))])])))))))
theorem mem_find_c : compile envIrM 3000 126 = .ok mem_find_ir := by kernel_rfl
theorem mem_find_p : paramShape Tryz.prog 126 = some [(true, 2), (false, 1)] := by kernel_rfl
theorem mem_find_k : Known gAll 126 (.ir [(true, 2), (false, 1)] mem_find_ir) := known_ir (E := envIrM) (n := 3000) rfl rfl mem_find_c mem_find_p
/-- atlas/bytes.Size -/
def bytes_Size_ir : IR :=
  (.lt (.bin .eql (.v 0) (.c (.i .i64 1))) (.ite (.v 1)
  (.ret [(false, [(.c (.b true))])])
  (.lt (.bin .eql (.v 0) (.c (.i .i64 2))) (.ite (.v 2)
  (.ret [(false, [(.c (.b true))])])
  (.lt (.bin .eql (.v 0) (.c (.i .i64 4))) (.ite (.v 3)
  (.ret [(false, [(.c (.b true))])])
  (.lt (.bin .eql (.v 0) (.c (.i .i64 8))) (.ret [(false, [(.v 4)])]))))))))
theorem bytes_Size_c : compile envIrM 3000 77 = .ok bytes_Size_ir := by kernel_rfl
theorem bytes_Size_p : paramShape Tryz.prog 77 = some [(false, 1)] := by kernel_rfl
theorem bytes_Size_k : Known gAll 77 (.ir [(false, 1)] bytes_Size_ir) := known_ir (E := envIrM) (n := 3000) rfl rfl bytes_Size_c bytes_Size_p
/-- atlas/atlasref02.Size -/
def atlasref02_Size_ir : IR :=
  (.lt (.bin .eql (.v 0) (.c (.i .i64 1))) (.ite (.v 1)
  (.ret [(false, [(.c (.b true))])])
  (.lt (.bin .eql (.v 0) (.c (.i .i64 2))) (.ite (.v 2)
  (.ret [(false, [(.c (.b true))])])
  (.lt (.bin .eql (.v 0) (.c (.i .i64 4))) (.ite (.v 3)
  (.ret [(false, [(.c (.b true))])])
  (.lt (.bin .eql (.v 0) (.c (.i .i64 8))) (.ret [(false, [(.v 4)])]))))))))
theorem atlasref02_Size_c : compile envIrM 3000 48 = .ok atlasref02_Size_ir := by kernel_rfl
theorem atlasref02_Size_p : paramShape Tryz.prog 48 = some [(false, 1)] := by kernel_rfl
theorem atlasref02_Size_k : Known gAll 48 (.ir [(false, 1)] atlasref02_Size_ir) := known_ir (E := envIrM) (n := 3000) rfl rfl atlasref02_Size_c atlasref02_Size_p
def inlenvIrMB : List FuncId :=
  92 ::
  []
noncomputable def envIrMB : Env := { P := Tryz.prog, G := gAll, inl := inlenvIrMB, unr := [], ded := true }
/-- atlas/atlasref03.Store -/
def atlasref03_Store_ir : IR :=
  (.call 89 [(true, [(.v 0), (.v 1)]), (false, [(.v 2)]), (false, [(.v 3)])] [(false, 1)]
  (.lt (.bin .neq (.v 5) (.c (.i .i64 0))) (.ite (.v 6)
  (.ret [(true, [(.v 0), (.v 1)]), (false, [(.v 5)])])
  (.call 93 [(true, [(.v 0), (.v 1)]), (false, [(.v 2)])] [(false, 1)]
  (.loop [(.v 7), (.c (.i .i64 0)), (.c (.sl 0 []))]
  (.lt (.bin .lss (.v 9) (.c (.i .i64 8))) (.ite (.v 11)
  (.lt (.bin .rem (.v 8) (.c (.i .u64 256))) (.lt (.cv .u8 (.v 12)) (.chk (.room (.len (.app 1 (.v 10) (.one [(.v 13)]))) 2) (.lt (.bin .quo (.v 8) (.c (.i .u64 256))) (.lt (.bin .add (.v 9) (.c (.i .i64 1))) (.cont 0 [(.v 14), (.v 15), (.app 1 (.v 10) (.one [(.v 13)]))]))))))
  (.loop [(.v 4), (.c (.i .i64 0)), (.c (.sl 0 []))]
  (.lt (.bin .lss (.v 13) (.v 3)) (.ite (.v 15)
  (.lt (.bin .rem (.v 12) (.c (.i .u64 256))) (.lt (.cv .u8 (.v 16)) (.chk (.room (.len (.app 1 (.v 14) (.one [(.v 17)]))) 2) (.lt (.bin .quo (.v 12) (.c (.i .u64 256))) (.lt (.bin .add (.v 13) (.c (.i .i64 1))) (.cont 1 [(.v 18), (.v 19), (.app 1 (.v 14) (.one [(.v 17)]))]))))))
  (.loop [(.c (.i .i64 0)), (.v 10)]
  (.lt (.bin .lss (.v 16) (.v 3)) (.ite (.v 18)
  (.lt (.bin .rem (.v 2) (.c (.i .u64 8))) (.lt (.cv .i64 (.v 19)) (.lt (.bin .add (.v 20) (.v 16)) (.chk (.inb (.v 14) (.v 16) 1) (.chk (.inb (.v 14) (.v 16) 1) (.chk (.inb (.v 17) (.v 21) 1) (.chk (.inb (.v 17) (.v 21) 1) (.lt (.bin .add (.v 16) (.c (.i .i64 1))) (.cont 2 [(.v 22), (.put (.v 17) (.v 21) 0 [(.idx (.v 14) (.v 16) 0)])])))))))))
  (.lt (.bin .quo (.v 2) (.c (.i .u64 8))) (.call 91 [(false, [(.v 17)])] [(false, 1)]
  (.call 94 [(true, [(.v 0), (.v 1)]), (false, [(.v 19)]), (false, [(.v 20)])] [(true, 2)]
  (.ret [(true, [(.v 21), (.v 22)]), (false, [(.c (.i .i64 0))])])))))))))))))))))
theorem atlasref03_Store_c : compile envIrMB 3000 53 = .ok atlasref03_Store_ir := by kernel_rfl
theorem atlasref03_Store_p : paramShape Tryz.prog 53 = some [(true, 2), (false, 1), (false, 1), (false, 1)] := by kernel_rfl
theorem atlasref03_Store_k : Known gAll 53 (.ir [(true, 2), (false, 1), (false, 1), (false, 1)] atlasref03_Store_ir) := known_ir (E := envIrMB) (n := 3000) rfl rfl atlasref03_Store_c atlasref03_Store_p
def TIrM : Tbl :=
  (82, .ir [(true, 2), (false, 1), (false, 1)] mem_Load_ir) ::
  (52, .ir [(true, 2), (false, 1), (false, 1)] atlasref03_Load_ir) ::
  (84, .ir [(true, 2), (false, 1), (false, 1), (false, 1)] mem_Store_ir) ::
  (113, .ir [(true, 2), (false, 1)] mem_Word_ir) ::
  (93, .ir [(true, 2), (false, 1)] atlasref03_Word_ir) ::
  (112, .ir [(true, 2), (false, 1), (false, 1)] mem_wrong_ir) ::
  (89, .ir [(true, 2), (false, 1), (false, 1)] atlasref03_wrong_ir) ::
  (90, .ir [(true, 2), (false, 1)] atlasref03_Byte_ir) ::
  (91, .ir [(false, 1)] atlasref02_Get_ir) ::
  (114, .ir [(true, 2), (false, 1), (false, 1)] mem_put_ir) ::
  (92, .ir [(false, 1), (false, 1)] atlasref02_Put_ir) ::
  (94, .ir [(true, 2), (false, 1), (false, 1)] atlasref03_Set_ir) ::
  (126, .ir [(true, 2), (false, 1)] mem_find_ir) ::
  (77, .ir [(false, 1)] bytes_Size_ir) ::
  (48, .ir [(false, 1)] atlasref02_Size_ir) ::
  (53, .ir [(true, 2), (false, 1), (false, 1), (false, 1)] atlasref03_Store_ir) ::
  []
theorem TIrM_ok : ∀ x ∈ TIrM, Known gAll x.1 x.2 :=
  kcons mem_Load_k <|
  kcons atlasref03_Load_k <|
  kcons mem_Store_k <|
  kcons mem_Word_k <|
  kcons atlasref03_Word_k <|
  kcons mem_wrong_k <|
  kcons atlasref03_wrong_k <|
  kcons atlasref03_Byte_k <|
  kcons atlasref02_Get_k <|
  kcons mem_put_k <|
  kcons atlasref02_Put_k <|
  kcons atlasref03_Set_k <|
  kcons mem_find_k <|
  kcons bytes_Size_k <|
  kcons atlasref02_Size_k <|
  kcons atlasref03_Store_k <|
  fun _ h => nomatch h
end Go.Proofs.YtlihbielphcgbaaGreatDoor.Sx
