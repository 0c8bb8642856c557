/-
  IRs of functions, printed by a program of mine (wip/tools/mkir.py, ev.run.lean); each is checked by the kernel against the executor.
-/
import Derived.Test.YtobdkhjaipoliaaGreatDoorZBf
import Derived.Test.YtobdkhjaipoliaaGreatDoorProg
namespace Go.Proofs.YtobdkhjaipoliaaGreatDoor.Sx
open Go
set_option maxRecDepth 100000
noncomputable def envIrA : Env := { P := Tryz.prog, G := gAll, inl := [], unr := [] }
def atlasref05_Is_ir : IR :=
  (.lt (.bin .lss (.v 0) (.c (.i .u64 274877906944))) (.ite (.v 1)
  (.ret [(false, [(.c (.b true))])])
  (.lt (.bin .geq (.v 0) (.c (.i .u64 18446743798831644672))) (.ret [(false, [(.v 2)])]))))
theorem atlasref05_Is_c : compile envIrA 3000 35 = .ok atlasref05_Is_ir := by kernel_rfl
theorem atlasref05_Is_p : paramShape Tryz.prog 35 = some [(false, 1)] := by kernel_rfl
theorem atlasref05_Is_k : Known gAll 35 (.ir [(false, 1)] atlasref05_Is_ir) := known_ir (E := envIrA) (n := 3000) rfl rfl atlasref05_Is_c atlasref05_Is_p
def atlasref05_Of_ir : IR :=
  (.lt (.bin .rem (.v 0) (.c (.i .u64 134217728))) (.lt (.bin .mul (.v 1) (.c (.i .u64 4096))) (.call 38 [(false, [(.v 2)]), (false, [(.c (.i .i64 39))])] [(false, 1)]
  (.ret [(false, [(.v 3)])]))))
theorem atlasref05_Of_c : compile envIrA 3000 20 = .ok atlasref05_Of_ir := by kernel_rfl
theorem atlasref05_Of_p : paramShape Tryz.prog 20 = some [(false, 1)] := by kernel_rfl
theorem atlasref05_Of_k : Known gAll 20 (.ir [(false, 1)] atlasref05_Of_ir) := known_ir (E := envIrA) (n := 3000) rfl rfl atlasref05_Of_c atlasref05_Of_p
def atlasref05_Size_ir : IR :=
  (.loop [(.c (.i .u64 4096)), (.c (.i .i64 0))]
  (.lt (.bin .lss (.v 2) (.v 0)) (.ite (.v 3)
  (.lt (.bin .mul (.v 1) (.c (.i .u64 512))) (.lt (.bin .add (.v 2) (.c (.i .i64 1))) (.cont 0 [(.v 4), (.v 5)])))
  (.ret [(false, [(.v 1)])]))))
theorem atlasref05_Size_c : compile envIrA 3000 99 = .ok atlasref05_Size_ir := by kernel_rfl
theorem atlasref05_Size_p : paramShape Tryz.prog 99 = some [(false, 1)] := by kernel_rfl
theorem atlasref05_Size_k : Known gAll 99 (.ir [(false, 1)] atlasref05_Size_ir) := known_ir (E := envIrA) (n := 3000) rfl rfl atlasref05_Size_c atlasref05_Size_p
def atlasref05_Index_ir : IR :=
  (.call 99 [(false, [(.v 1)])] [(false, 1)]
  (.lt (.bin .quo (.v 0) (.v 2)) (.lt (.bin .rem (.v 3) (.c (.i .u64 512))) (.lt (.cv .i64 (.v 4)) (.ret [(false, [(.v 5)])])))))
theorem atlasref05_Index_c : compile envIrA 3000 69 = .ok atlasref05_Index_ir := by kernel_rfl
theorem atlasref05_Index_p : paramShape Tryz.prog 69 = some [(false, 1), (false, 1)] := by kernel_rfl
theorem atlasref05_Index_k : Known gAll 69 (.ir [(false, 1), (false, 1)] atlasref05_Index_ir) := known_ir (E := envIrA) (n := 3000) rfl rfl atlasref05_Index_c atlasref05_Index_p
def atlasref01_Sign_ir : IR :=
  (.loop [(.c (.i .i64 0)), (.c (.b false)), (.c (.b false)), (.c (.b false)), (.c (.b false)), (.c (.b false)), (.c (.b false)), (.c (.b false)), (.c (.b false)), (.c (.b false)), (.c (.b false)), (.c (.b false)), (.c (.b false)), (.c (.b false)), (.c (.b false)), (.c (.b false)), (.c (.b false)), (.c (.b false)), (.c (.b false)), (.c (.b false)), (.c (.b false)), (.c (.b false)), (.c (.b false)), (.c (.b false)), (.c (.b false)), (.c (.b false)), (.c (.b false)), (.c (.b false)), (.c (.b false)), (.c (.b false)), (.c (.b false)), (.c (.b false)), (.c (.b false)), (.c (.b false)), (.c (.b false)), (.c (.b false)), (.c (.b false)), (.c (.b false)), (.c (.b false)), (.c (.b false)), (.c (.b false)), (.c (.b false)), (.c (.b false)), (.c (.b false)), (.c (.b false)), (.c (.b false)), (.c (.b false)), (.c (.b false)), (.c (.b false)), (.c (.b false)), (.c (.b false)), (.c (.b false)), (.c (.b false)), (.c (.b false)), (.c (.b false)), (.c (.b false)), (.c (.b false)), (.c (.b false)), (.c (.b false)), (.c (.b false)), (.c (.b false)), (.c (.b false)), (.c (.b false)), (.c (.b false)), (.c (.b false))]
  (.lt (.bin .lss (.v 2) (.c (.i .i64 64))) (.ite (.v 67)
  (.lt (.bin .sub (.v 1) (.c (.i .i64 1))) (.lt (.ite (.bin .lss (.v 68) (.v 2)) (.v 68) (.v 2)) (.call 74 [(false, [(.v 0)]), (false, [(.v 69)])] [(false, 1)]
  (.chk (.rng (.v 2) 64) (.lt (.bin .add (.v 2) (.c (.i .i64 1))) (.cont 0 ([(.v 71)] ++ putV 2 0 70 (vr 3 64))))))))
  (.call 75 [(true, (vr 3 64))] [(false, 1)]
  (.ret [(false, [(.v 68)])])))))
theorem atlasref01_Sign_c : compile envIrA 3000 38 = .ok atlasref01_Sign_ir := by kernel_rfl
theorem atlasref01_Sign_p : paramShape Tryz.prog 38 = some [(false, 1), (false, 1)] := by kernel_rfl
theorem atlasref01_Sign_k : Known gAll 38 (.ir [(false, 1), (false, 1)] atlasref01_Sign_ir) := known_ir (E := envIrA) (n := 3000) rfl rfl atlasref01_Sign_c atlasref01_Sign_p
def va_Number_ir : IR :=
  (.call 79 [(false, [(.v 0)]), (false, [(.c (.i .i64 12))]), (false, [(.c (.i .i64 27))])] [(false, 1)]
  (.ret [(false, [(.v 1)])]))
theorem va_Number_c : compile envIrA 3000 54 = .ok va_Number_ir := by kernel_rfl
theorem va_Number_p : paramShape Tryz.prog 54 = some [(false, 1)] := by kernel_rfl
theorem va_Number_k : Known gAll 54 (.ir [(false, 1)] va_Number_ir) := known_ir (E := envIrA) (n := 3000) rfl rfl va_Number_c va_Number_p
def bits_Even_ir : IR :=
  (.lt (.bin .eql (.v 1) (.c (.i .u64 0))) (.ite (.v 2)
  (.lt (.bin .eql (.v 0) (.c (.i .u64 0))) (.ret [(false, [(.v 3)])]))
  (.lt (.bin .rem (.v 0) (.v 1)) (.lt (.bin .eql (.v 3) (.c (.i .u64 0))) (.ret [(false, [(.v 4)])])))))
theorem bits_Even_c : compile envIrA 3000 28 = .ok bits_Even_ir := by kernel_rfl
theorem bits_Even_p : paramShape Tryz.prog 28 = some [(false, 1), (false, 1)] := by kernel_rfl
theorem bits_Even_k : Known gAll 28 (.ir [(false, 1), (false, 1)] bits_Even_ir) := known_ir (E := envIrA) (n := 3000) rfl rfl bits_Even_c bits_Even_p
def bits_Get_ir : IR :=
  (.lt (.cv .u64 (.v 1)) (.lt (.bin .shr (.v 0) (.v 3)) (.call 102 [(false, [(.v 2)])] [(false, 1)]
  (.lt (.bin .and (.v 4) (.v 5)) (.ret [(false, [(.v 6)])])))))
theorem bits_Get_c : compile envIrA 3000 79 = .ok bits_Get_ir := by kernel_rfl
theorem bits_Get_p : paramShape Tryz.prog 79 = some [(false, 1), (false, 1), (false, 1)] := by kernel_rfl
theorem bits_Get_k : Known gAll 79 (.ir [(false, 1), (false, 1), (false, 1)] bits_Get_ir) := known_ir (E := envIrA) (n := 3000) rfl rfl bits_Get_c bits_Get_p
def bits_Set_ir : IR :=
  (.call 102 [(false, [(.v 2)])] [(false, 1)]
  (.lt (.cv .u64 (.v 1)) (.lt (.bin .shl (.v 4) (.v 5)) (.lt (.bin .andNot (.v 0) (.v 6)) (.lt (.cv .u64 (.v 1)) (.lt (.bin .shl (.v 3) (.v 8)) (.lt (.bin .and (.v 9) (.v 6)) (.lt (.bin .or (.v 7) (.v 10)) (.ret [(false, [(.v 11)])])))))))))
theorem bits_Set_c : compile envIrA 3000 86 = .ok bits_Set_ir := by kernel_rfl
theorem bits_Set_p : paramShape Tryz.prog 86 = some [(false, 1), (false, 1), (false, 1), (false, 1)] := by kernel_rfl
theorem bits_Set_k : Known gAll 86 (.ir [(false, 1), (false, 1), (false, 1), (false, 1)] bits_Set_ir) := known_ir (E := envIrA) (n := 3000) rfl rfl bits_Set_c bits_Set_p
def va_Is_ir : IR :=
  (.call 76 [(false, [(.v 0)]), (false, [(.c (.i .i64 39))])] [(false, 1)]
  (.lt (.bin .eql (.v 1) (.v 0)) (.ret [(false, [(.v 2)])])))
theorem va_Is_c : compile envIrA 3000 39 = .ok va_Is_ir := by kernel_rfl
theorem va_Is_p : paramShape Tryz.prog 39 = some [(false, 1)] := by kernel_rfl
theorem va_Is_k : Known gAll 39 (.ir [(false, 1)] va_Is_ir) := known_ir (E := envIrA) (n := 3000) rfl rfl va_Is_c va_Is_p
def va_Offset_ir : IR :=
  (.chk (.rng (.v 1) 3) (.lt (.bin .sub (selE (.v 1) 0 [(.c (.i .u64 4096)), (.c (.i .u64 2097152)), (.c (.i .u64 1073741824))]) (.c (.i .u64 1))) (.lt (.bin .and (.v 0) (.v 2)) (.ret [(false, [(.v 3)])]))))
theorem va_Offset_c : compile envIrA 3000 94 = .ok va_Offset_ir := by kernel_rfl
theorem va_Offset_p : paramShape Tryz.prog 94 = some [(false, 1), (false, 1)] := by kernel_rfl
theorem va_Offset_k : Known gAll 94 (.ir [(false, 1), (false, 1)] va_Offset_ir) := known_ir (E := envIrA) (n := 3000) rfl rfl va_Offset_c va_Offset_p
def atlasref01_Bit_ir : IR :=
  (.lt (.bin .lss (.v 1) (.c (.i .i64 0))) (.ite (.v 2)
  (.ret [(false, [(.c (.b false))])])
  (.lt (.bin .gtr (.v 1) (.c (.i .i64 63))) (.ite (.v 3)
  (.ret [(false, [(.c (.b false))])])
  (.loop [(.v 0), (.c (.i .i64 0))]
  (.lt (.bin .lss (.v 5) (.v 1)) (.ite (.v 6)
  (.lt (.bin .quo (.v 4) (.c (.i .u64 2))) (.lt (.bin .add (.v 5) (.c (.i .i64 1))) (.cont 0 [(.v 7), (.v 8)])))
  (.lt (.bin .rem (.v 4) (.c (.i .u64 2))) (.lt (.bin .eql (.v 7) (.c (.i .u64 1))) (.ret [(false, [(.v 8)])]))))))))))
theorem atlasref01_Bit_c : compile envIrA 3000 74 = .ok atlasref01_Bit_ir := by kernel_rfl
theorem atlasref01_Bit_p : paramShape Tryz.prog 74 = some [(false, 1), (false, 1)] := by kernel_rfl
theorem atlasref01_Bit_k : Known gAll 74 (.ir [(false, 1), (false, 1)] atlasref01_Bit_ir) := known_ir (E := envIrA) (n := 3000) rfl rfl atlasref01_Bit_c atlasref01_Bit_p
def va_Size_ir : IR :=
  (.chk (.rng (.v 0) 3) (.ret [(false, [(selE (.v 0) 0 [(.c (.i .u64 4096)), (.c (.i .u64 2097152)), (.c (.i .u64 1073741824))])])]))
theorem va_Size_c : compile envIrA 3000 82 = .ok va_Size_ir := by kernel_rfl
theorem va_Size_p : paramShape Tryz.prog 82 = some [(false, 1)] := by kernel_rfl
theorem va_Size_k : Known gAll 82 (.ir [(false, 1)] va_Size_ir) := known_ir (E := envIrA) (n := 3000) rfl rfl va_Size_c va_Size_p
def va_Index_ir : IR :=
  (.lt (.bin .mul (.c (.i .i64 9)) (.v 1)) (.lt (.bin .add (.c (.i .i64 12)) (.v 2)) (.call 79 [(false, [(.v 0)]), (false, [(.v 3)]), (false, [(.c (.i .i64 9))])] [(false, 1)]
  (.lt (.cv .i64 (.v 4)) (.ret [(false, [(.v 5)])])))))
theorem va_Index_c : compile envIrA 3000 77 = .ok va_Index_ir := by kernel_rfl
theorem va_Index_p : paramShape Tryz.prog 77 = some [(false, 1), (false, 1)] := by kernel_rfl
theorem va_Index_k : Known gAll 77 (.ir [(false, 1), (false, 1)] va_Index_ir) := known_ir (E := envIrA) (n := 3000) rfl rfl va_Index_c va_Index_p
def va_Base_ir : IR :=
  (.call 94 [(false, [(.v 0)]), (false, [(.v 1)])] [(false, 1)]
  (.lt (.bin .sub (.v 0) (.v 2)) (.ret [(false, [(.v 3)])])))
theorem va_Base_c : compile envIrA 3000 55 = .ok va_Base_ir := by kernel_rfl
theorem va_Base_p : paramShape Tryz.prog 55 = some [(false, 1), (false, 1)] := by kernel_rfl
theorem va_Base_k : Known gAll 55 (.ir [(false, 1), (false, 1)] va_Base_ir) := known_ir (E := envIrA) (n := 3000) rfl rfl va_Base_c va_Base_p
def atlasref01_of_ir : IR :=
  (.loop [(.c (.i .u64 0)), (.c (.i .i64 63))]
  (.lt (.bin .geq (.v 65) (.c (.i .i64 0))) (.ite (.v 66)
  (.lt (.bin .mul (.v 64) (.c (.i .u64 2))) (.chk (.rng (.v 65) 64) (.ite (selE (.v 65) 0 (vr 0 64))
  (.lt (.bin .add (.v 67) (.c (.i .u64 1))) (.lt (.bin .sub (.v 65) (.c (.i .i64 1))) (.cont 0 [(.v 68), (.v 69)])))
  (.lt (.bin .sub (.v 65) (.c (.i .i64 1))) (.cont 0 [(.v 67), (.v 68)])))))
  (.ret [(false, [(.v 64)])]))))
theorem atlasref01_of_c : compile envIrA 3000 75 = .ok atlasref01_of_ir := by kernel_rfl
theorem atlasref01_of_p : paramShape Tryz.prog 75 = some [(true, 64)] := by kernel_rfl
theorem atlasref01_of_k : Known gAll 75 (.ir [(true, 64)] atlasref01_of_ir) := known_ir (E := envIrA) (n := 3000) rfl rfl atlasref01_of_c atlasref01_of_p
def bits_mask_ir : IR :=
  (.lt (.bin .geq (.v 0) (.c (.i .i64 64))) (.ite (.v 1)
  (.ret [(false, [(.c (.i .u64 18446744073709551615))])])
  (.lt (.cv .u64 (.v 0)) (.lt (.bin .shl (.c (.i .u64 1)) (.v 2)) (.lt (.bin .sub (.v 3) (.c (.i .u64 1))) (.ret [(false, [(.v 4)])]))))))
theorem bits_mask_c : compile envIrA 3000 102 = .ok bits_mask_ir := by kernel_rfl
theorem bits_mask_p : paramShape Tryz.prog 102 = some [(false, 1)] := by kernel_rfl
theorem bits_mask_k : Known gAll 102 (.ir [(false, 1)] bits_mask_ir) := known_ir (E := envIrA) (n := 3000) rfl rfl bits_mask_c bits_mask_p
def bits_Bool_ir : IR :=
  (.ite (.v 0)
  (.ret [(false, [(.c (.i .u64 1))])])
  (.ret [(false, [(.c (.i .u64 0))])]))
theorem bits_Bool_c : compile envIrA 3000 107 = .ok bits_Bool_ir := by kernel_rfl
theorem bits_Bool_p : paramShape Tryz.prog 107 = some [(false, 1)] := by kernel_rfl
theorem bits_Bool_k : Known gAll 107 (.ir [(false, 1)] bits_Bool_ir) := known_ir (E := envIrA) (n := 3000) rfl rfl bits_Bool_c bits_Bool_p
def bits_Sign_ir : IR :=
  (.lt (.bin .sub (.c (.i .i64 64)) (.v 1)) (.lt (.cv .u64 (.v 2)) (.lt (.bin .shl (.v 0) (.v 3)) (.lt (.cv .i64 (.v 4)) (.lt (.bin .shr (.v 5) (.v 3)) (.lt (.cv .u64 (.v 6)) (.ret [(false, [(.v 7)])])))))))
theorem bits_Sign_c : compile envIrA 3000 76 = .ok bits_Sign_ir := by kernel_rfl
theorem bits_Sign_p : paramShape Tryz.prog 76 = some [(false, 1), (false, 1)] := by kernel_rfl
theorem bits_Sign_k : Known gAll 76 (.ir [(false, 1), (false, 1)] bits_Sign_ir) := known_ir (E := envIrA) (n := 3000) rfl rfl bits_Sign_c bits_Sign_p
def TIrA : Tbl :=
  (35, .ir [(false, 1)] atlasref05_Is_ir) ::
  (20, .ir [(false, 1)] atlasref05_Of_ir) ::
  (99, .ir [(false, 1)] atlasref05_Size_ir) ::
  (69, .ir [(false, 1), (false, 1)] atlasref05_Index_ir) ::
  (38, .ir [(false, 1), (false, 1)] atlasref01_Sign_ir) ::
  (54, .ir [(false, 1)] va_Number_ir) ::
  (28, .ir [(false, 1), (false, 1)] bits_Even_ir) ::
  (79, .ir [(false, 1), (false, 1), (false, 1)] bits_Get_ir) ::
  (86, .ir [(false, 1), (false, 1), (false, 1), (false, 1)] bits_Set_ir) ::
  (39, .ir [(false, 1)] va_Is_ir) ::
  (94, .ir [(false, 1), (false, 1)] va_Offset_ir) ::
  (74, .ir [(false, 1), (false, 1)] atlasref01_Bit_ir) ::
  (82, .ir [(false, 1)] va_Size_ir) ::
  (77, .ir [(false, 1), (false, 1)] va_Index_ir) ::
  (55, .ir [(false, 1), (false, 1)] va_Base_ir) ::
  (75, .ir [(true, 64)] atlasref01_of_ir) ::
  (102, .ir [(false, 1)] bits_mask_ir) ::
  (107, .ir [(false, 1)] bits_Bool_ir) ::
  (76, .ir [(false, 1), (false, 1)] bits_Sign_ir) ::
  []
theorem TIrA_ok : ∀ x ∈ TIrA, Known gAll x.1 x.2 :=
  kcons atlasref05_Is_k <|
  kcons atlasref05_Of_k <|
  kcons atlasref05_Size_k <|
  kcons atlasref05_Index_k <|
  kcons atlasref01_Sign_k <|
  kcons va_Number_k <|
  kcons bits_Even_k <|
  kcons bits_Get_k <|
  kcons bits_Set_k <|
  kcons va_Is_k <|
  kcons va_Offset_k <|
  kcons atlasref01_Bit_k <|
  kcons va_Size_k <|
  kcons va_Index_k <|
  kcons va_Base_k <|
  kcons atlasref01_of_k <|
  kcons bits_mask_k <|
  kcons bits_Bool_k <|
  kcons bits_Sign_k <|
  fun _ h => nomatch h
end Go.Proofs.YtobdkhjaipoliaaGreatDoor.Sx
