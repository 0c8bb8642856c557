/-
  IRs of functions, printed by a program of mine (wip/tools/mkir.py, ev.run.lean); each is checked by the kernel against the executor.
-/
import Derived.Test.YtebcdcdcefhdfaaDoorRun
import Derived.Test.YtebcdcdcefhdfaaDoorProg
namespace Go.Proofs.YtebcdcdcefhdfaaDoor.Sx
open Go
set_option maxRecDepth 100000
noncomputable def envIrA : Env := { P := Tryd.prog, G := gAll, inl := [], unr := [] }
/-- atlas/atlasref05.Is -/
def atlasref05_Is_ir : IR :=
  (.lt (.bin .lss (.v 0) (.c (.i .u64 274877906944))) (.ite (.v 1)
  (.ret [(false, [(.c (.b true))])])
  (.lt (.bin .geq (.v 0) (.c (.i .u64 18446743798831644672))) (.ret [(false, [(.v 2)])]))))
theorem atlasref05_Is_c : compile envIrA 3000 11 = .ok atlasref05_Is_ir := by kernel_rfl
theorem atlasref05_Is_p : paramShape Tryd.prog 11 = some [(false, 1)] := by kernel_rfl
theorem atlasref05_Is_k : Known gAll 11 (.ir [(false, 1)] atlasref05_Is_ir) := known_ir (E := envIrA) (n := 3000) rfl rfl atlasref05_Is_c atlasref05_Is_p
/-- atlas/atlasref05.Of -/
def atlasref05_Of_ir : IR :=
  (.lt (.bin .rem (.v 0) (.c (.i .u64 134217728))) (.lt (.bin .mul (.v 1) (.c (.i .u64 4096))) (.call 37 [(false, [(.v 2)]), (false, [(.c (.i .i64 39))])] [(false, 1)]
  (.ret [(false, [(.v 3)])]))))
theorem atlasref05_Of_c : compile envIrA 3000 23 = .ok atlasref05_Of_ir := by kernel_rfl
theorem atlasref05_Of_p : paramShape Tryd.prog 23 = some [(false, 1)] := by kernel_rfl
theorem atlasref05_Of_k : Known gAll 23 (.ir [(false, 1)] atlasref05_Of_ir) := known_ir (E := envIrA) (n := 3000) rfl rfl atlasref05_Of_c atlasref05_Of_p
/-- atlas/atlasref05.Size -/
def atlasref05_Size_ir : IR :=
  (.loop [(.c (.i .u64 4096)), (.c (.i .i64 0))]
  (.lt (.bin .lss (.v 2) (.v 0)) (.ite (.v 3)
  (.lt (.bin .mul (.v 1) (.c (.i .u64 512))) (.lt (.bin .add (.v 2) (.c (.i .i64 1))) (.cont 0 [(.v 4), (.v 5)])))
  (.ret [(false, [(.v 1)])]))))
theorem atlasref05_Size_c : compile envIrA 3000 43 = .ok atlasref05_Size_ir := by kernel_rfl
theorem atlasref05_Size_p : paramShape Tryd.prog 43 = some [(false, 1)] := by kernel_rfl
theorem atlasref05_Size_k : Known gAll 43 (.ir [(false, 1)] atlasref05_Size_ir) := known_ir (E := envIrA) (n := 3000) rfl rfl atlasref05_Size_c atlasref05_Size_p
/-- atlas/atlasref01.Sign -/
def atlasref01_Sign_ir : IR :=
  (.loop [(.c (.i .i64 0)), (.c (.b false)), (.c (.b false)), (.c (.b false)), (.c (.b false)), (.c (.b false)), (.c (.b false)), (.c (.b false)), (.c (.b false)), (.c (.b false)), (.c (.b false)), (.c (.b false)), (.c (.b false)), (.c (.b false)), (.c (.b false)), (.c (.b false)), (.c (.b false)), (.c (.b false)), (.c (.b false)), (.c (.b false)), (.c (.b false)), (.c (.b false)), (.c (.b false)), (.c (.b false)), (.c (.b false)), (.c (.b false)), (.c (.b false)), (.c (.b false)), (.c (.b false)), (.c (.b false)), (.c (.b false)), (.c (.b false)), (.c (.b false)), (.c (.b false)), (.c (.b false)), (.c (.b false)), (.c (.b false)), (.c (.b false)), (.c (.b false)), (.c (.b false)), (.c (.b false)), (.c (.b false)), (.c (.b false)), (.c (.b false)), (.c (.b false)), (.c (.b false)), (.c (.b false)), (.c (.b false)), (.c (.b false)), (.c (.b false)), (.c (.b false)), (.c (.b false)), (.c (.b false)), (.c (.b false)), (.c (.b false)), (.c (.b false)), (.c (.b false)), (.c (.b false)), (.c (.b false)), (.c (.b false)), (.c (.b false)), (.c (.b false)), (.c (.b false)), (.c (.b false)), (.c (.b false))]
  (.lt (.bin .lss (.v 2) (.c (.i .i64 64))) (.ite (.v 67)
  (.lt (.bin .sub (.v 1) (.c (.i .i64 1))) (.lt (.ite (.bin .lss (.v 68) (.v 2)) (.v 68) (.v 2)) (.call 47 [(false, [(.v 0)]), (false, [(.v 69)])] [(false, 1)]
  (.chk (.rng (.v 2) 64) (.lt (.bin .add (.v 2) (.c (.i .i64 1))) (.cont 0 ([(.v 71)] ++ putV 2 0 70 (vr 3 64))))))))
  (.call 48 [(true, (vr 3 64))] [(false, 1)]
  (.ret [(false, [(.v 68)])])))))
theorem atlasref01_Sign_c : compile envIrA 3000 37 = .ok atlasref01_Sign_ir := by kernel_rfl
theorem atlasref01_Sign_p : paramShape Tryd.prog 37 = some [(false, 1), (false, 1)] := by kernel_rfl
theorem atlasref01_Sign_k : Known gAll 37 (.ir [(false, 1), (false, 1)] atlasref01_Sign_ir) := known_ir (E := envIrA) (n := 3000) rfl rfl atlasref01_Sign_c atlasref01_Sign_p
/-- atlas/va.Number -/
def va_Number_ir : IR :=
  (.call 51 [(false, [(.v 0)]), (false, [(.c (.i .i64 12))]), (false, [(.c (.i .i64 27))])] [(false, 1)]
  (.ret [(false, [(.v 1)])]))
theorem va_Number_c : compile envIrA 3000 52 = .ok va_Number_ir := by kernel_rfl
theorem va_Number_p : paramShape Tryd.prog 52 = some [(false, 1)] := by kernel_rfl
theorem va_Number_k : Known gAll 52 (.ir [(false, 1)] va_Number_ir) := known_ir (E := envIrA) (n := 3000) rfl rfl va_Number_c va_Number_p
/-- atlas/atlasref05.Number -/
def atlasref05_Number_ir : IR :=
  (.lt (.bin .quo (.v 0) (.c (.i .u64 4096))) (.lt (.bin .rem (.v 1) (.c (.i .u64 134217728))) (.ret [(false, [(.v 2)])])))
theorem atlasref05_Number_c : compile envIrA 3000 49 = .ok atlasref05_Number_ir := by kernel_rfl
theorem atlasref05_Number_p : paramShape Tryd.prog 49 = some [(false, 1)] := by kernel_rfl
theorem atlasref05_Number_k : Known gAll 49 (.ir [(false, 1)] atlasref05_Number_ir) := known_ir (E := envIrA) (n := 3000) rfl rfl atlasref05_Number_c atlasref05_Number_p
/-- atlas/bits.Even -/
def bits_Even_ir : IR :=
  (.lt (.bin .eql (.v 1) (.c (.i .u64 0))) (.ite (.v 2)
  (.lt (.bin .eql (.v 0) (.c (.i .u64 0))) (.ret [(false, [(.v 3)])]))
  (.lt (.bin .rem (.v 0) (.v 1)) (.lt (.bin .eql (.v 3) (.c (.i .u64 0))) (.ret [(false, [(.v 4)])])))))
theorem bits_Even_c : compile envIrA 3000 42 = .ok bits_Even_ir := by kernel_rfl
theorem bits_Even_p : paramShape Tryd.prog 42 = some [(false, 1), (false, 1)] := by kernel_rfl
theorem bits_Even_k : Known gAll 42 (.ir [(false, 1), (false, 1)] bits_Even_ir) := known_ir (E := envIrA) (n := 3000) rfl rfl bits_Even_c bits_Even_p
/-- atlas/bits.Get -/
def bits_Get_ir : IR :=
  (.lt (.cv .u64 (.v 1)) (.lt (.bin .shr (.v 0) (.v 3)) (.call 55 [(false, [(.v 2)])] [(false, 1)]
  (.lt (.bin .and (.v 4) (.v 5)) (.ret [(false, [(.v 6)])])))))
theorem bits_Get_c : compile envIrA 3000 51 = .ok bits_Get_ir := by kernel_rfl
theorem bits_Get_p : paramShape Tryd.prog 51 = some [(false, 1), (false, 1), (false, 1)] := by kernel_rfl
theorem bits_Get_k : Known gAll 51 (.ir [(false, 1), (false, 1), (false, 1)] bits_Get_ir) := known_ir (E := envIrA) (n := 3000) rfl rfl bits_Get_c bits_Get_p
/-- atlas/va.Offset -/
def va_Offset_ir : IR :=
  (.chk (.rng (.v 1) 3) (.lt (.bin .sub (selE (.v 1) 0 [(.c (.i .u64 4096)), (.c (.i .u64 2097152)), (.c (.i .u64 1073741824))]) (.c (.i .u64 1))) (.lt (.bin .and (.v 0) (.v 2)) (.ret [(false, [(.v 3)])]))))
theorem va_Offset_c : compile envIrA 3000 56 = .ok va_Offset_ir := by kernel_rfl
theorem va_Offset_p : paramShape Tryd.prog 56 = some [(false, 1), (false, 1)] := by kernel_rfl
theorem va_Offset_k : Known gAll 56 (.ir [(false, 1), (false, 1)] va_Offset_ir) := known_ir (E := envIrA) (n := 3000) rfl rfl va_Offset_c va_Offset_p
/-- atlas/atlasref01.Bit -/
def atlasref01_Bit_ir : IR :=
  (.lt (.bin .lss (.v 1) (.c (.i .i64 0))) (.ite (.v 2)
  (.ret [(false, [(.c (.b false))])])
  (.lt (.bin .gtr (.v 1) (.c (.i .i64 63))) (.ite (.v 3)
  (.ret [(false, [(.c (.b false))])])
  (.loop [(.v 0), (.c (.i .i64 0))]
  (.lt (.bin .lss (.v 5) (.v 1)) (.ite (.v 6)
  (.lt (.bin .quo (.v 4) (.c (.i .u64 2))) (.lt (.bin .add (.v 5) (.c (.i .i64 1))) (.cont 0 [(.v 7), (.v 8)])))
  (.lt (.bin .rem (.v 4) (.c (.i .u64 2))) (.lt (.bin .eql (.v 7) (.c (.i .u64 1))) (.ret [(false, [(.v 8)])]))))))))))
theorem atlasref01_Bit_c : compile envIrA 3000 47 = .ok atlasref01_Bit_ir := by kernel_rfl
theorem atlasref01_Bit_p : paramShape Tryd.prog 47 = some [(false, 1), (false, 1)] := by kernel_rfl
theorem atlasref01_Bit_k : Known gAll 47 (.ir [(false, 1), (false, 1)] atlasref01_Bit_ir) := known_ir (E := envIrA) (n := 3000) rfl rfl atlasref01_Bit_c atlasref01_Bit_p
/-- atlas/va.Size -/
def va_Size_ir : IR :=
  (.chk (.rng (.v 0) 3) (.ret [(false, [(selE (.v 0) 0 [(.c (.i .u64 4096)), (.c (.i .u64 2097152)), (.c (.i .u64 1073741824))])])]))
theorem va_Size_c : compile envIrA 3000 50 = .ok va_Size_ir := by kernel_rfl
theorem va_Size_p : paramShape Tryd.prog 50 = some [(false, 1)] := by kernel_rfl
theorem va_Size_k : Known gAll 50 (.ir [(false, 1)] va_Size_ir) := known_ir (E := envIrA) (n := 3000) rfl rfl va_Size_c va_Size_p
/-- atlas/va.Base -/
def va_Base_ir : IR :=
  (.call 56 [(false, [(.v 0)]), (false, [(.v 1)])] [(false, 1)]
  (.lt (.bin .sub (.v 0) (.v 2)) (.ret [(false, [(.v 3)])])))
theorem va_Base_c : compile envIrA 3000 53 = .ok va_Base_ir := by kernel_rfl
theorem va_Base_p : paramShape Tryd.prog 53 = some [(false, 1), (false, 1)] := by kernel_rfl
theorem va_Base_k : Known gAll 53 (.ir [(false, 1), (false, 1)] va_Base_ir) := known_ir (E := envIrA) (n := 3000) rfl rfl va_Base_c va_Base_p
/-- atlas/atlasref01.of -/
def atlasref01_of_ir : IR :=
  (.loop [(.c (.i .u64 0)), (.c (.i .i64 63))]
  (.lt (.bin .geq (.v 65) (.c (.i .i64 0))) (.ite (.v 66)
  (.lt (.bin .mul (.v 64) (.c (.i .u64 2))) (.chk (.rng (.v 65) 64) (.ite (selE (.v 65) 0 (vr 0 64))
  (.lt (.bin .add (.v 67) (.c (.i .u64 1))) (.lt (.bin .sub (.v 65) (.c (.i .i64 1))) (.cont 0 [(.v 68), (.v 69)])))
  (.lt (.bin .sub (.v 65) (.c (.i .i64 1))) (.cont 0 [(.v 67), (.v 68)])))))
  (.ret [(false, [(.v 64)])]))))
theorem atlasref01_of_c : compile envIrA 3000 48 = .ok atlasref01_of_ir := by kernel_rfl
theorem atlasref01_of_p : paramShape Tryd.prog 48 = some [(true, 64)] := by kernel_rfl
theorem atlasref01_of_k : Known gAll 48 (.ir [(true, 64)] atlasref01_of_ir) := known_ir (E := envIrA) (n := 3000) rfl rfl atlasref01_of_c atlasref01_of_p
/-- atlas/bits.mask -/
def bits_mask_ir : IR :=
  (.lt (.bin .geq (.v 0) (.c (.i .i64 64))) (.ite (.v 1)
  (.ret [(false, [(.c (.i .u64 18446744073709551615))])])
  (.lt (.cv .u64 (.v 0)) (.lt (.bin .shl (.c (.i .u64 1)) (.v 2)) (.lt (.bin .sub (.v 3) (.c (.i .u64 1))) (.ret [(false, [(.v 4)])]))))))
theorem bits_mask_c : compile envIrA 3000 55 = .ok bits_mask_ir := by kernel_rfl
theorem bits_mask_p : paramShape Tryd.prog 55 = some [(false, 1)] := by kernel_rfl
theorem bits_mask_k : Known gAll 55 (.ir [(false, 1)] bits_mask_ir) := known_ir (E := envIrA) (n := 3000) rfl rfl bits_mask_c bits_mask_p
def TIrA : Tbl :=
  (11, .ir [(false, 1)] atlasref05_Is_ir) ::
  (23, .ir [(false, 1)] atlasref05_Of_ir) ::
  (43, .ir [(false, 1)] atlasref05_Size_ir) ::
  (37, .ir [(false, 1), (false, 1)] atlasref01_Sign_ir) ::
  (52, .ir [(false, 1)] va_Number_ir) ::
  (49, .ir [(false, 1)] atlasref05_Number_ir) ::
  (42, .ir [(false, 1), (false, 1)] bits_Even_ir) ::
  (51, .ir [(false, 1), (false, 1), (false, 1)] bits_Get_ir) ::
  (56, .ir [(false, 1), (false, 1)] va_Offset_ir) ::
  (47, .ir [(false, 1), (false, 1)] atlasref01_Bit_ir) ::
  (50, .ir [(false, 1)] va_Size_ir) ::
  (53, .ir [(false, 1), (false, 1)] va_Base_ir) ::
  (48, .ir [(true, 64)] atlasref01_of_ir) ::
  (55, .ir [(false, 1)] bits_mask_ir) ::
  []
theorem TIrA_ok : ∀ x ∈ TIrA, Known gAll x.1 x.2 :=
  kcons atlasref05_Is_k <|
  kcons atlasref05_Of_k <|
  kcons atlasref05_Size_k <|
  kcons atlasref01_Sign_k <|
  kcons va_Number_k <|
  kcons atlasref05_Number_k <|
  kcons bits_Even_k <|
  kcons bits_Get_k <|
  kcons va_Offset_k <|
  kcons atlasref01_Bit_k <|
  kcons va_Size_k <|
  kcons va_Base_k <|
  kcons atlasref01_of_k <|
  kcons bits_mask_k <|
  fun _ h => nomatch h
end Go.Proofs.YtebcdcdcefhdfaaDoor.Sx
