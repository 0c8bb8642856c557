/-
  IRs of functions, printed by a program of mine (wip/tools/mkir.py, ev.run.lean); each is checked by the kernel against the executor.
-/
import Derived.Test.YtmjhghclgockjaaDoorRun
import Derived.Test.YtmjhghclgockjaaDoorProg
namespace Go.Proofs.YtmjhghclgockjaaDoor.Sx
open Go
set_option maxRecDepth 100000
noncomputable def envIrA : Env := { P := Tryd.prog, G := gAll, inl := [], unr := [] }
/-- atlas/atlasref05.Is -/
def atlasref05_Is_ir : IR :=
  (.lt (.bin .lss (.v 0) (.c (.i .u64 274877906944))) (.ite (.v 1)
  (.ret [(false, [(.c (.b true))])])
  (.lt (.bin .geq (.v 0) (.c (.i .u64 18446743798831644672))) (.ret [(false, [(.v 2)])]))))
theorem atlasref05_Is_c : compile envIrA 3000 12 = .ok atlasref05_Is_ir := by kernel_rfl
theorem atlasref05_Is_p : paramShape Tryd.prog 12 = some [(false, 1)] := by kernel_rfl
theorem atlasref05_Is_k : Known gAll 12 (.ir [(false, 1)] atlasref05_Is_ir) := known_ir (E := envIrA) (n := 3000) rfl rfl atlasref05_Is_c atlasref05_Is_p
/-- atlas/atlasref05.Size -/
def atlasref05_Size_ir : IR :=
  (.loop [(.c (.i .u64 4096)), (.c (.i .i64 0))]
  (.lt (.bin .lss (.v 2) (.v 0)) (.ite (.v 3)
  (.lt (.bin .mul (.v 1) (.c (.i .u64 512))) (.lt (.bin .add (.v 2) (.c (.i .i64 1))) (.cont 0 [(.v 4), (.v 5)])))
  (.ret [(false, [(.v 1)])]))))
theorem atlasref05_Size_c : compile envIrA 3000 49 = .ok atlasref05_Size_ir := by kernel_rfl
theorem atlasref05_Size_p : paramShape Tryd.prog 49 = some [(false, 1)] := by kernel_rfl
theorem atlasref05_Size_k : Known gAll 49 (.ir [(false, 1)] atlasref05_Size_ir) := known_ir (E := envIrA) (n := 3000) rfl rfl atlasref05_Size_c atlasref05_Size_p
/-- atlas/va.Number -/
def va_Number_ir : IR :=
  (.call 60 [(false, [(.v 0)]), (false, [(.c (.i .i64 12))]), (false, [(.c (.i .i64 27))])] [(false, 1)]
  (.ret [(false, [(.v 1)])]))
theorem va_Number_c : compile envIrA 3000 37 = .ok va_Number_ir := by kernel_rfl
theorem va_Number_p : paramShape Tryd.prog 37 = some [(false, 1)] := by kernel_rfl
theorem va_Number_k : Known gAll 37 (.ir [(false, 1)] va_Number_ir) := known_ir (E := envIrA) (n := 3000) rfl rfl va_Number_c va_Number_p
/-- atlas/atlasref05.Number -/
def atlasref05_Number_ir : IR :=
  (.lt (.bin .quo (.v 0) (.c (.i .u64 4096))) (.lt (.bin .rem (.v 1) (.c (.i .u64 134217728))) (.ret [(false, [(.v 2)])])))
theorem atlasref05_Number_c : compile envIrA 3000 39 = .ok atlasref05_Number_ir := by kernel_rfl
theorem atlasref05_Number_p : paramShape Tryd.prog 39 = some [(false, 1)] := by kernel_rfl
theorem atlasref05_Number_k : Known gAll 39 (.ir [(false, 1)] atlasref05_Number_ir) := known_ir (E := envIrA) (n := 3000) rfl rfl atlasref05_Number_c atlasref05_Number_p
/-- atlas/bits.Even -/
def bits_Even_ir : IR :=
  (.lt (.bin .eql (.v 1) (.c (.i .u64 0))) (.ite (.v 2)
  (.lt (.bin .eql (.v 0) (.c (.i .u64 0))) (.ret [(false, [(.v 3)])]))
  (.lt (.bin .rem (.v 0) (.v 1)) (.lt (.bin .eql (.v 3) (.c (.i .u64 0))) (.ret [(false, [(.v 4)])])))))
theorem bits_Even_c : compile envIrA 3000 52 = .ok bits_Even_ir := by kernel_rfl
theorem bits_Even_p : paramShape Tryd.prog 52 = some [(false, 1), (false, 1)] := by kernel_rfl
theorem bits_Even_k : Known gAll 52 (.ir [(false, 1), (false, 1)] bits_Even_ir) := known_ir (E := envIrA) (n := 3000) rfl rfl bits_Even_c bits_Even_p
/-- atlas/bits.Get -/
def bits_Get_ir : IR :=
  (.lt (.cv .u64 (.v 1)) (.lt (.bin .shr (.v 0) (.v 3)) (.call 69 [(false, [(.v 2)])] [(false, 1)]
  (.lt (.bin .and (.v 4) (.v 5)) (.ret [(false, [(.v 6)])])))))
theorem bits_Get_c : compile envIrA 3000 60 = .ok bits_Get_ir := by kernel_rfl
theorem bits_Get_p : paramShape Tryd.prog 60 = some [(false, 1), (false, 1), (false, 1)] := by kernel_rfl
theorem bits_Get_k : Known gAll 60 (.ir [(false, 1), (false, 1), (false, 1)] bits_Get_ir) := known_ir (E := envIrA) (n := 3000) rfl rfl bits_Get_c bits_Get_p
/-- atlas/va.Offset -/
def va_Offset_ir : IR :=
  (.chk (.rng (.v 1) 3) (.lt (.bin .sub (selE (.v 1) 0 [(.c (.i .u64 4096)), (.c (.i .u64 2097152)), (.c (.i .u64 1073741824))]) (.c (.i .u64 1))) (.lt (.bin .and (.v 0) (.v 2)) (.ret [(false, [(.v 3)])]))))
theorem va_Offset_c : compile envIrA 3000 73 = .ok va_Offset_ir := by kernel_rfl
theorem va_Offset_p : paramShape Tryd.prog 73 = some [(false, 1), (false, 1)] := by kernel_rfl
theorem va_Offset_k : Known gAll 73 (.ir [(false, 1), (false, 1)] va_Offset_ir) := known_ir (E := envIrA) (n := 3000) rfl rfl va_Offset_c va_Offset_p
/-- atlas/va.Size -/
def va_Size_ir : IR :=
  (.chk (.rng (.v 0) 3) (.ret [(false, [(selE (.v 0) 0 [(.c (.i .u64 4096)), (.c (.i .u64 2097152)), (.c (.i .u64 1073741824))])])]))
theorem va_Size_c : compile envIrA 3000 53 = .ok va_Size_ir := by kernel_rfl
theorem va_Size_p : paramShape Tryd.prog 53 = some [(false, 1)] := by kernel_rfl
theorem va_Size_k : Known gAll 53 (.ir [(false, 1)] va_Size_ir) := known_ir (E := envIrA) (n := 3000) rfl rfl va_Size_c va_Size_p
/-- atlas/va.Base -/
def va_Base_ir : IR :=
  (.call 73 [(false, [(.v 0)]), (false, [(.v 1)])] [(false, 1)]
  (.lt (.bin .sub (.v 0) (.v 2)) (.ret [(false, [(.v 3)])])))
theorem va_Base_c : compile envIrA 3000 72 = .ok va_Base_ir := by kernel_rfl
theorem va_Base_p : paramShape Tryd.prog 72 = some [(false, 1), (false, 1)] := by kernel_rfl
theorem va_Base_k : Known gAll 72 (.ir [(false, 1), (false, 1)] va_Base_ir) := known_ir (E := envIrA) (n := 3000) rfl rfl va_Base_c va_Base_p
/-- atlas/bits.mask -/
def bits_mask_ir : IR :=
  (.lt (.bin .geq (.v 0) (.c (.i .i64 64))) (.ite (.v 1)
  (.ret [(false, [(.c (.i .u64 18446744073709551615))])])
  (.lt (.cv .u64 (.v 0)) (.lt (.bin .shl (.c (.i .u64 1)) (.v 2)) (.lt (.bin .sub (.v 3) (.c (.i .u64 1))) (.ret [(false, [(.v 4)])]))))))
theorem bits_mask_c : compile envIrA 3000 69 = .ok bits_mask_ir := by kernel_rfl
theorem bits_mask_p : paramShape Tryd.prog 69 = some [(false, 1)] := by kernel_rfl
theorem bits_mask_k : Known gAll 69 (.ir [(false, 1)] bits_mask_ir) := known_ir (E := envIrA) (n := 3000) rfl rfl bits_mask_c bits_mask_p
def TIrA : Tbl :=
  (12, .ir [(false, 1)] atlasref05_Is_ir) ::
  (49, .ir [(false, 1)] atlasref05_Size_ir) ::
  (37, .ir [(false, 1)] va_Number_ir) ::
  (39, .ir [(false, 1)] atlasref05_Number_ir) ::
  (52, .ir [(false, 1), (false, 1)] bits_Even_ir) ::
  (60, .ir [(false, 1), (false, 1), (false, 1)] bits_Get_ir) ::
  (73, .ir [(false, 1), (false, 1)] va_Offset_ir) ::
  (53, .ir [(false, 1)] va_Size_ir) ::
  (72, .ir [(false, 1), (false, 1)] va_Base_ir) ::
  (69, .ir [(false, 1)] bits_mask_ir) ::
  []
theorem TIrA_ok : ∀ x ∈ TIrA, Known gAll x.1 x.2 :=
  kcons atlasref05_Is_k <|
  kcons atlasref05_Size_k <|
  kcons va_Number_k <|
  kcons atlasref05_Number_k <|
  kcons bits_Even_k <|
  kcons bits_Get_k <|
  kcons va_Offset_k <|
  kcons va_Size_k <|
  kcons va_Base_k <|
  kcons bits_mask_k <|
  fun _ h => nomatch h
end Go.Proofs.YtmjhghclgockjaaDoor.Sx
