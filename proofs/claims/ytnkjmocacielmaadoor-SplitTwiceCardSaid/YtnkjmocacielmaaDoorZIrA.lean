/-
 IRs of functions, printed by a program of mine (wip/tools/mkir.py, ev.run.lean); each is checked by the kernel against the executor.
-/
import Derived.Test.YtnkjmocacielmaaDoorZBf
import Derived.Test.YtnkjmocacielmaaDoorProg
namespace Go.Proofs.YtnkjmocacielmaaDoor.Sx
open Go
set_option maxRecDepth 100000
noncomputable def envIrA : Env := { P := Tryd.prog, G := gAll, inl := [], unr := [] }
def atlasref05_Is_ir : IR :=
 (.lt (.bin .lss (.v 0) (.c (.i .u64 274877906944))) (.ite (.v 1)
 (.ret [(false, [(.c (.b true))])])
 (.lt (.bin .geq (.v 0) (.c (.i .u64 18446743798831644672))) (.ret [(false, [(.v 2)])]))))
theorem atlasref05_Is_c : compile envIrA 3000 9 = .ok atlasref05_Is_ir := by kernel_rfl
theorem atlasref05_Is_p : paramShape Tryd.prog 9 = some [(false, 1)] := by kernel_rfl
theorem atlasref05_Is_k : Known gAll 9 (.ir [(false, 1)] atlasref05_Is_ir) := known_ir (E := envIrA) (n := 3000) rfl rfl atlasref05_Is_c atlasref05_Is_p
def atlasref05_Of_ir : IR :=
 (.lt (.bin .rem (.v 0) (.c (.i .u64 134217728))) (.lt (.bin .mul (.v 1) (.c (.i .u64 4096))) (.call 73 [(false, [(.v 2)]), (false, [(.c (.i .i64 39))])] [(false, 1)]
 (.ret [(false, [(.v 3)])]))))
theorem atlasref05_Of_c : compile envIrA 3000 46 = .ok atlasref05_Of_ir := by kernel_rfl
theorem atlasref05_Of_p : paramShape Tryd.prog 46 = some [(false, 1)] := by kernel_rfl
theorem atlasref05_Of_k : Known gAll 46 (.ir [(false, 1)] atlasref05_Of_ir) := known_ir (E := envIrA) (n := 3000) rfl rfl atlasref05_Of_c atlasref05_Of_p
def atlasref05_Size_ir : IR :=
 (.loop [(.c (.i .u64 4096)), (.c (.i .i64 0))]
 (.lt (.bin .lss (.v 2) (.v 0)) (.ite (.v 3)
 (.lt (.bin .mul (.v 1) (.c (.i .u64 512))) (.lt (.bin .add (.v 2) (.c (.i .i64 1))) (.cont 0 [(.v 4), (.v 5)])))
 (.ret [(false, [(.v 1)])]))))
theorem atlasref05_Size_c : compile envIrA 3000 44 = .ok atlasref05_Size_ir := by kernel_rfl
theorem atlasref05_Size_p : paramShape Tryd.prog 44 = some [(false, 1)] := by kernel_rfl
theorem atlasref05_Size_k : Known gAll 44 (.ir [(false, 1)] atlasref05_Size_ir) := known_ir (E := envIrA) (n := 3000) rfl rfl atlasref05_Size_c atlasref05_Size_p
def atlasref05_Index_ir : IR :=
 (.call 44 [(false, [(.v 1)])] [(false, 1)]
 (.lt (.bin .quo (.v 0) (.v 2)) (.lt (.bin .rem (.v 3) (.c (.i .u64 512))) (.lt (.cv .i64 (.v 4)) (.ret [(false, [(.v 5)])])))))
theorem atlasref05_Index_c : compile envIrA 3000 32 = .ok atlasref05_Index_ir := by kernel_rfl
theorem atlasref05_Index_p : paramShape Tryd.prog 32 = some [(false, 1), (false, 1)] := by kernel_rfl
theorem atlasref05_Index_k : Known gAll 32 (.ir [(false, 1), (false, 1)] atlasref05_Index_ir) := known_ir (E := envIrA) (n := 3000) rfl rfl atlasref05_Index_c atlasref05_Index_p
def atlasref01_Sign_ir : IR :=
 (.loop [(.c (.i .i64 0)), (.c (.b false)), (.c (.b false)), (.c (.b false)), (.c (.b false)), (.c (.b false)), (.c (.b false)), (.c (.b false)), (.c (.b false)), (.c (.b false)), (.c (.b false)), (.c (.b false)), (.c (.b false)), (.c (.b false)), (.c (.b false)), (.c (.b false)), (.c (.b false)), (.c (.b false)), (.c (.b false)), (.c (.b false)), (.c (.b false)), (.c (.b false)), (.c (.b false)), (.c (.b false)), (.c (.b false)), (.c (.b false)), (.c (.b false)), (.c (.b false)), (.c (.b false)), (.c (.b false)), (.c (.b false)), (.c (.b false)), (.c (.b false)), (.c (.b false)), (.c (.b false)), (.c (.b false)), (.c (.b false)), (.c (.b false)), (.c (.b false)), (.c (.b false)), (.c (.b false)), (.c (.b false)), (.c (.b false)), (.c (.b false)), (.c (.b false)), (.c (.b false)), (.c (.b false)), (.c (.b false)), (.c (.b false)), (.c (.b false)), (.c (.b false)), (.c (.b false)), (.c (.b false)), (.c (.b false)), (.c (.b false)), (.c (.b false)), (.c (.b false)), (.c (.b false)), (.c (.b false)), (.c (.b false)), (.c (.b false)), (.c (.b false)), (.c (.b false)), (.c (.b false)), (.c (.b false))]
 (.lt (.bin .lss (.v 2) (.c (.i .i64 64))) (.ite (.v 67)
 (.lt (.bin .sub (.v 1) (.c (.i .i64 1))) (.lt (.ite (.bin .lss (.v 68) (.v 2)) (.v 68) (.v 2)) (.call 74 [(false, [(.v 0)]), (false, [(.v 69)])] [(false, 1)]
 (.chk (.rng (.v 2) 64) (.lt (.bin .add (.v 2) (.c (.i .i64 1))) (.cont 0 ([(.v 71)] ++ putV 2 0 70 (vr 3 64))))))))
 (.call 89 [(true, (vr 3 64))] [(false, 1)]
 (.ret [(false, [(.v 68)])])))))
theorem atlasref01_Sign_c : compile envIrA 3000 73 = .ok atlasref01_Sign_ir := by kernel_rfl
theorem atlasref01_Sign_p : paramShape Tryd.prog 73 = some [(false, 1), (false, 1)] := by kernel_rfl
theorem atlasref01_Sign_k : Known gAll 73 (.ir [(false, 1), (false, 1)] atlasref01_Sign_ir) := known_ir (E := envIrA) (n := 3000) rfl rfl atlasref01_Sign_c atlasref01_Sign_p
def atlasref05_Number_ir : IR :=
 (.lt (.bin .quo (.v 0) (.c (.i .u64 4096))) (.lt (.bin .rem (.v 1) (.c (.i .u64 134217728))) (.ret [(false, [(.v 2)])])))
theorem atlasref05_Number_c : compile envIrA 3000 47 = .ok atlasref05_Number_ir := by kernel_rfl
theorem atlasref05_Number_p : paramShape Tryd.prog 47 = some [(false, 1)] := by kernel_rfl
theorem atlasref05_Number_k : Known gAll 47 (.ir [(false, 1)] atlasref05_Number_ir) := known_ir (E := envIrA) (n := 3000) rfl rfl atlasref05_Number_c atlasref05_Number_p
def bits_Even_ir : IR :=
 (.lt (.bin .eql (.v 1) (.c (.i .u64 0))) (.ite (.v 2)
 (.lt (.bin .eql (.v 0) (.c (.i .u64 0))) (.ret [(false, [(.v 3)])]))
 (.lt (.bin .rem (.v 0) (.v 1)) (.lt (.bin .eql (.v 3) (.c (.i .u64 0))) (.ret [(false, [(.v 4)])])))))
theorem bits_Even_c : compile envIrA 3000 86 = .ok bits_Even_ir := by kernel_rfl
theorem bits_Even_p : paramShape Tryd.prog 86 = some [(false, 1), (false, 1)] := by kernel_rfl
theorem bits_Even_k : Known gAll 86 (.ir [(false, 1), (false, 1)] bits_Even_ir) := known_ir (E := envIrA) (n := 3000) rfl rfl bits_Even_c bits_Even_p
def bits_Get_ir : IR :=
 (.lt (.cv .u64 (.v 1)) (.lt (.bin .shr (.v 0) (.v 3)) (.call 92 [(false, [(.v 2)])] [(false, 1)]
 (.lt (.bin .and (.v 4) (.v 5)) (.ret [(false, [(.v 6)])])))))
theorem bits_Get_c : compile envIrA 3000 77 = .ok bits_Get_ir := by kernel_rfl
theorem bits_Get_p : paramShape Tryd.prog 77 = some [(false, 1), (false, 1), (false, 1)] := by kernel_rfl
theorem bits_Get_k : Known gAll 77 (.ir [(false, 1), (false, 1), (false, 1)] bits_Get_ir) := known_ir (E := envIrA) (n := 3000) rfl rfl bits_Get_c bits_Get_p
def bits_Set_ir : IR :=
 (.call 92 [(false, [(.v 2)])] [(false, 1)]
 (.lt (.cv .u64 (.v 1)) (.lt (.bin .shl (.v 4) (.v 5)) (.lt (.bin .andNot (.v 0) (.v 6)) (.lt (.cv .u64 (.v 1)) (.lt (.bin .shl (.v 3) (.v 8)) (.lt (.bin .and (.v 9) (.v 6)) (.lt (.bin .or (.v 7) (.v 10)) (.ret [(false, [(.v 11)])])))))))))
theorem bits_Set_c : compile envIrA 3000 79 = .ok bits_Set_ir := by kernel_rfl
theorem bits_Set_p : paramShape Tryd.prog 79 = some [(false, 1), (false, 1), (false, 1), (false, 1)] := by kernel_rfl
theorem bits_Set_k : Known gAll 79 (.ir [(false, 1), (false, 1), (false, 1), (false, 1)] bits_Set_ir) := known_ir (E := envIrA) (n := 3000) rfl rfl bits_Set_c bits_Set_p
def va_Offset_ir : IR :=
 (.chk (.rng (.v 1) 3) (.lt (.bin .sub (selE (.v 1) 0 [(.c (.i .u64 4096)), (.c (.i .u64 2097152)), (.c (.i .u64 1073741824))]) (.c (.i .u64 1))) (.lt (.bin .and (.v 0) (.v 2)) (.ret [(false, [(.v 3)])]))))
theorem va_Offset_c : compile envIrA 3000 68 = .ok va_Offset_ir := by kernel_rfl
theorem va_Offset_p : paramShape Tryd.prog 68 = some [(false, 1), (false, 1)] := by kernel_rfl
theorem va_Offset_k : Known gAll 68 (.ir [(false, 1), (false, 1)] va_Offset_ir) := known_ir (E := envIrA) (n := 3000) rfl rfl va_Offset_c va_Offset_p
def atlasref01_Bit_ir : IR :=
 (.lt (.bin .lss (.v 1) (.c (.i .i64 0))) (.ite (.v 2)
 (.ret [(false, [(.c (.b false))])])
 (.lt (.bin .gtr (.v 1) (.c (.i .i64 63))) (.ite (.v 3)
 (.ret [(false, [(.c (.b false))])])
 (.loop [(.v 0), (.c (.i .i64 0))]
 (.lt (.bin .lss (.v 5) (.v 1)) (.ite (.v 6)
 (.lt (.bin .quo (.v 4) (.c (.i .u64 2))) (.lt (.bin .add (.v 5) (.c (.i .i64 1))) (.cont 0 [(.v 7), (.v 8)])))
 (.lt (.bin .rem (.v 4) (.c (.i .u64 2))) (.lt (.bin .eql (.v 7) (.c (.i .u64 1))) (.ret [(false, [(.v 8)])]))))))))))
theorem atlasref01_Bit_c : compile envIrA 3000 74 = .ok atlasref01_Bit_ir := by kernel_rfl
theorem atlasref01_Bit_p : paramShape Tryd.prog 74 = some [(false, 1), (false, 1)] := by kernel_rfl
theorem atlasref01_Bit_k : Known gAll 74 (.ir [(false, 1), (false, 1)] atlasref01_Bit_ir) := known_ir (E := envIrA) (n := 3000) rfl rfl atlasref01_Bit_c atlasref01_Bit_p
def va_Size_ir : IR :=
 (.chk (.rng (.v 0) 3) (.ret [(false, [(selE (.v 0) 0 [(.c (.i .u64 4096)), (.c (.i .u64 2097152)), (.c (.i .u64 1073741824))])])]))
theorem va_Size_c : compile envIrA 3000 37 = .ok va_Size_ir := by kernel_rfl
theorem va_Size_p : paramShape Tryd.prog 37 = some [(false, 1)] := by kernel_rfl
theorem va_Size_k : Known gAll 37 (.ir [(false, 1)] va_Size_ir) := known_ir (E := envIrA) (n := 3000) rfl rfl va_Size_c va_Size_p
def va_Index_ir : IR :=
 (.lt (.bin .mul (.c (.i .i64 9)) (.v 1)) (.lt (.bin .add (.c (.i .i64 12)) (.v 2)) (.call 77 [(false, [(.v 0)]), (false, [(.v 3)]), (false, [(.c (.i .i64 9))])] [(false, 1)]
 (.lt (.cv .i64 (.v 4)) (.ret [(false, [(.v 5)])])))))
theorem va_Index_c : compile envIrA 3000 57 = .ok va_Index_ir := by kernel_rfl
theorem va_Index_p : paramShape Tryd.prog 57 = some [(false, 1), (false, 1)] := by kernel_rfl
theorem va_Index_k : Known gAll 57 (.ir [(false, 1), (false, 1)] va_Index_ir) := known_ir (E := envIrA) (n := 3000) rfl rfl va_Index_c va_Index_p
def va_Base_ir : IR :=
 (.call 68 [(false, [(.v 0)]), (false, [(.v 1)])] [(false, 1)]
 (.lt (.bin .sub (.v 0) (.v 2)) (.ret [(false, [(.v 3)])])))
theorem va_Base_c : compile envIrA 3000 36 = .ok va_Base_ir := by kernel_rfl
theorem va_Base_p : paramShape Tryd.prog 36 = some [(false, 1), (false, 1)] := by kernel_rfl
theorem va_Base_k : Known gAll 36 (.ir [(false, 1), (false, 1)] va_Base_ir) := known_ir (E := envIrA) (n := 3000) rfl rfl va_Base_c va_Base_p
def atlasref01_of_ir : IR :=
 (.loop [(.c (.i .u64 0)), (.c (.i .i64 63))]
 (.lt (.bin .geq (.v 65) (.c (.i .i64 0))) (.ite (.v 66)
 (.lt (.bin .mul (.v 64) (.c (.i .u64 2))) (.chk (.rng (.v 65) 64) (.ite (selE (.v 65) 0 (vr 0 64))
 (.lt (.bin .add (.v 67) (.c (.i .u64 1))) (.lt (.bin .sub (.v 65) (.c (.i .i64 1))) (.cont 0 [(.v 68), (.v 69)])))
 (.lt (.bin .sub (.v 65) (.c (.i .i64 1))) (.cont 0 [(.v 67), (.v 68)])))))
 (.ret [(false, [(.v 64)])]))))
theorem atlasref01_of_c : compile envIrA 3000 89 = .ok atlasref01_of_ir := by kernel_rfl
theorem atlasref01_of_p : paramShape Tryd.prog 89 = some [(true, 64)] := by kernel_rfl
theorem atlasref01_of_k : Known gAll 89 (.ir [(true, 64)] atlasref01_of_ir) := known_ir (E := envIrA) (n := 3000) rfl rfl atlasref01_of_c atlasref01_of_p
def bits_mask_ir : IR :=
 (.lt (.bin .geq (.v 0) (.c (.i .i64 64))) (.ite (.v 1)
 (.ret [(false, [(.c (.i .u64 18446744073709551615))])])
 (.lt (.cv .u64 (.v 0)) (.lt (.bin .shl (.c (.i .u64 1)) (.v 2)) (.lt (.bin .sub (.v 3) (.c (.i .u64 1))) (.ret [(false, [(.v 4)])]))))))
theorem bits_mask_c : compile envIrA 3000 92 = .ok bits_mask_ir := by kernel_rfl
theorem bits_mask_p : paramShape Tryd.prog 92 = some [(false, 1)] := by kernel_rfl
theorem bits_mask_k : Known gAll 92 (.ir [(false, 1)] bits_mask_ir) := known_ir (E := envIrA) (n := 3000) rfl rfl bits_mask_c bits_mask_p
def bits_Bool_ir : IR :=
 (.ite (.v 0)
 (.ret [(false, [(.c (.i .u64 1))])])
 (.ret [(false, [(.c (.i .u64 0))])]))
theorem bits_Bool_c : compile envIrA 3000 95 = .ok bits_Bool_ir := by kernel_rfl
theorem bits_Bool_p : paramShape Tryd.prog 95 = some [(false, 1)] := by kernel_rfl
theorem bits_Bool_k : Known gAll 95 (.ir [(false, 1)] bits_Bool_ir) := known_ir (E := envIrA) (n := 3000) rfl rfl bits_Bool_c bits_Bool_p
def atlasref01_Set_ir : IR :=
 (.loop [(.c (.i .i64 0)), (.c (.b false)), (.c (.b false)), (.c (.b false)), (.c (.b false)), (.c (.b false)), (.c (.b false)), (.c (.b false)), (.c (.b false)), (.c (.b false)), (.c (.b false)), (.c (.b false)), (.c (.b false)), (.c (.b false)), (.c (.b false)), (.c (.b false)), (.c (.b false)), (.c (.b false)), (.c (.b false)), (.c (.b false)), (.c (.b false)), (.c (.b false)), (.c (.b false)), (.c (.b false)), (.c (.b false)), (.c (.b false)), (.c (.b false)), (.c (.b false)), (.c (.b false)), (.c (.b false)), (.c (.b false)), (.c (.b false)), (.c (.b false)), (.c (.b false)), (.c (.b false)), (.c (.b false)), (.c (.b false)), (.c (.b false)), (.c (.b false)), (.c (.b false)), (.c (.b false)), (.c (.b false)), (.c (.b false)), (.c (.b false)), (.c (.b false)), (.c (.b false)), (.c (.b false)), (.c (.b false)), (.c (.b false)), (.c (.b false)), (.c (.b false)), (.c (.b false)), (.c (.b false)), (.c (.b false)), (.c (.b false)), (.c (.b false)), (.c (.b false)), (.c (.b false)), (.c (.b false)), (.c (.b false)), (.c (.b false)), (.c (.b false)), (.c (.b false)), (.c (.b false)), (.c (.b false))]
 (.lt (.bin .lss (.v 4) (.c (.i .i64 64))) (.ite (.v 69)
 (.call 74 [(false, [(.v 0)]), (false, [(.v 4)])] [(false, 1)]
 (.chk (.rng (.v 4) 64) (.lt (.bin .geq (.v 4) (.v 1)) (.ite (.v 71)
 (.lt (.bin .add (.v 1) (.v 2)) (.lt (.bin .lss (.v 4) (.v 72)) (.ite (.v 73)
 (.lt (.bin .sub (.v 4) (.v 1)) (.call 74 [(false, [(.v 3)]), (false, [(.v 74)])] [(false, 1)]
 (.chk (.rng (.v 4) 64) (.lt (.bin .add (.v 4) (.c (.i .i64 1))) (.cont 0 [(.v 76), (.ite (.isk (.v 4) 0) (.v 75) (.ite (.isk (.v 4) 0) (.v 70) (.v 5))), (.ite (.isk (.v 4) 1) (.v 75) (.ite (.isk (.v 4) 1) (.v 70) (.v 6))), (.ite (.isk (.v 4) 2) (.v 75) (.ite (.isk (.v 4) 2) (.v 70) (.v 7))), (.ite (.isk (.v 4) 3) (.v 75) (.ite (.isk (.v 4) 3) (.v 70) (.v 8))), (.ite (.isk (.v 4) 4) (.v 75) (.ite (.isk (.v 4) 4) (.v 70) (.v 9))), (.ite (.isk (.v 4) 5) (.v 75) (.ite (.isk (.v 4) 5) (.v 70) (.v 10))), (.ite (.isk (.v 4) 6) (.v 75) (.ite (.isk (.v 4) 6) (.v 70) (.v 11))), (.ite (.isk (.v 4) 7) (.v 75) (.ite (.isk (.v 4) 7) (.v 70) (.v 12))), (.ite (.isk (.v 4) 8) (.v 75) (.ite (.isk (.v 4) 8) (.v 70) (.v 13))), (.ite (.isk (.v 4) 9) (.v 75) (.ite (.isk (.v 4) 9) (.v 70) (.v 14))), (.ite (.isk (.v 4) 10) (.v 75) (.ite (.isk (.v 4) 10) (.v 70) (.v 15))), (.ite (.isk (.v 4) 11) (.v 75) (.ite (.isk (.v 4) 11) (.v 70) (.v 16))), (.ite (.isk (.v 4) 12) (.v 75) (.ite (.isk (.v 4) 12) (.v 70) (.v 17))), (.ite (.isk (.v 4) 13) (.v 75) (.ite (.isk (.v 4) 13) (.v 70) (.v 18))), (.ite (.isk (.v 4) 14) (.v 75) (.ite (.isk (.v 4) 14) (.v 70) (.v 19))), (.ite (.isk (.v 4) 15) (.v 75) (.ite (.isk (.v 4) 15) (.v 70) (.v 20))), (.ite (.isk (.v 4) 16) (.v 75) (.ite (.isk (.v 4) 16) (.v 70) (.v 21))), (.ite (.isk (.v 4) 17) (.v 75) (.ite (.isk (.v 4) 17) (.v 70) (.v 22))), (.ite (.isk (.v 4) 18) (.v 75) (.ite (.isk (.v 4) 18) (.v 70) (.v 23))), (.ite (.isk (.v 4) 19) (.v 75) (.ite (.isk (.v 4) 19) (.v 70) (.v 24))), (.ite (.isk (.v 4) 20) (.v 75) (.ite (.isk (.v 4) 20) (.v 70) (.v 25))), (.ite (.isk (.v 4) 21) (.v 75) (.ite (.isk (.v 4) 21) (.v 70) (.v 26))), (.ite (.isk (.v 4) 22) (.v 75) (.ite (.isk (.v 4) 22) (.v 70) (.v 27))), (.ite (.isk (.v 4) 23) (.v 75) (.ite (.isk (.v 4) 23) (.v 70) (.v 28))), (.ite (.isk (.v 4) 24) (.v 75) (.ite (.isk (.v 4) 24) (.v 70) (.v 29))), (.ite (.isk (.v 4) 25) (.v 75) (.ite (.isk (.v 4) 25) (.v 70) (.v 30))), (.ite (.isk (.v 4) 26) (.v 75) (.ite (.isk (.v 4) 26) (.v 70) (.v 31))), (.ite (.isk (.v 4) 27) (.v 75) (.ite (.isk (.v 4) 27) (.v 70) (.v 32))), (.ite (.isk (.v 4) 28) (.v 75) (.ite (.isk (.v 4) 28) (.v 70) (.v 33))), (.ite (.isk (.v 4) 29) (.v 75) (.ite (.isk (.v 4) 29) (.v 70) (.v 34))), (.ite (.isk (.v 4) 30) (.v 75) (.ite (.isk (.v 4) 30) (.v 70) (.v 35))), (.ite (.isk (.v 4) 31) (.v 75) (.ite (.isk (.v 4) 31) (.v 70) (.v 36))), (.ite (.isk (.v 4) 32) (.v 75) (.ite (.isk (.v 4) 32) (.v 70) (.v 37))), (.ite (.isk (.v 4) 33) (.v 75) (.ite (.isk (.v 4) 33) (.v 70) (.v 38))), (.ite (.isk (.v 4) 34) (.v 75) (.ite (.isk (.v 4) 34) (.v 70) (.v 39))), (.ite (.isk (.v 4) 35) (.v 75) (.ite (.isk (.v 4) 35) (.v 70) (.v 40))), (.ite (.isk (.v 4) 36) (.v 75) (.ite (.isk (.v 4) 36) (.v 70) (.v 41))), (.ite (.isk (.v 4) 37) (.v 75) (.ite (.isk (.v 4) 37) (.v 70) (.v 42))), (.ite (.isk (.v 4) 38) (.v 75) (.ite (.isk (.v 4) 38) (.v 70) (.v 43))), (.ite (.isk (.v 4) 39) (.v 75) (.ite (.isk (.v 4) 39) (.v 70) (.v 44))), (.ite (.isk (.v 4) 40) (.v 75) (.ite (.isk (.v 4) 40) (.v 70) (.v 45))), (.ite (.isk (.v 4) 41) (.v 75) (.ite (.isk (.v 4) 41) (.v 70) (.v 46))), (.ite (.isk (.v 4) 42) (.v 75) (.ite (.isk (.v 4) 42) (.v 70) (.v 47))), (.ite (.isk (.v 4) 43) (.v 75) (.ite (.isk (.v 4) 43) (.v 70) (.v 48))), (.ite (.isk (.v 4) 44) (.v 75) (.ite (.isk (.v 4) 44) (.v 70) (.v 49))), (.ite (.isk (.v 4) 45) (.v 75) (.ite (.isk (.v 4) 45) (.v 70) (.v 50))), (.ite (.isk (.v 4) 46) (.v 75) (.ite (.isk (.v 4) 46) (.v 70) (.v 51))), (.ite (.isk (.v 4) 47) (.v 75) (.ite (.isk (.v 4) 47) (.v 70) (.v 52))), (.ite (.isk (.v 4) 48) (.v 75) (.ite (.isk (.v 4) 48) (.v 70) (.v 53))), (.ite (.isk (.v 4) 49) (.v 75) (.ite (.isk (.v 4) 49) (.v 70) (.v 54))), (.ite (.isk (.v 4) 50) (.v 75) (.ite (.isk (.v 4) 50) (.v 70) (.v 55))), (.ite (.isk (.v 4) 51) (.v 75) (.ite (.isk (.v 4) 51) (.v 70) (.v 56))), (.ite (.isk (.v 4) 52) (.v 75) (.ite (.isk (.v 4) 52) (.v 70) (.v 57))), (.ite (.isk (.v 4) 53) (.v 75) (.ite (.isk (.v 4) 53) (.v 70) (.v 58))), (.ite (.isk (.v 4) 54) (.v 75) (.ite (.isk (.v 4) 54) (.v 70) (.v 59))), (.ite (.isk (.v 4) 55) (.v 75) (.ite (.isk (.v 4) 55) (.v 70) (.v 60))), (.ite (.isk (.v 4) 56) (.v 75) (.ite (.isk (.v 4) 56) (.v 70) (.v 61))), (.ite (.isk (.v 4) 57) (.v 75) (.ite (.isk (.v 4) 57) (.v 70) (.v 62))), (.ite (.isk (.v 4) 58) (.v 75) (.ite (.isk (.v 4) 58) (.v 70) (.v 63))), (.ite (.isk (.v 4) 59) (.v 75) (.ite (.isk (.v 4) 59) (.v 70) (.v 64))), (.ite (.isk (.v 4) 60) (.v 75) (.ite (.isk (.v 4) 60) (.v 70) (.v 65))), (.ite (.isk (.v 4) 61) (.v 75) (.ite (.isk (.v 4) 61) (.v 70) (.v 66))), (.ite (.isk (.v 4) 62) (.v 75) (.ite (.isk (.v 4) 62) (.v 70) (.v 67))), (.ite (.isk (.v 4) 63) (.v 75) (.ite (.isk (.v 4) 63) (.v 70) (.v 68)))])))))
 (.lt (.bin .add (.v 4) (.c (.i .i64 1))) (.cont 0 ([(.v 74)] ++ putV 4 0 70 (vr 5 64)))))))
 (.lt (.bin .add (.v 4) (.c (.i .i64 1))) (.cont 0 ([(.v 72)] ++ putV 4 0 70 (vr 5 64))))))))
 (.call 89 [(true, (vr 5 64))] [(false, 1)]
 (.ret [(false, [(.v 70)])])))))
theorem atlasref01_Set_c : compile envIrA 3000 85 = .ok atlasref01_Set_ir := by kernel_rfl
theorem atlasref01_Set_p : paramShape Tryd.prog 85 = some [(false, 1), (false, 1), (false, 1), (false, 1)] := by kernel_rfl
theorem atlasref01_Set_k : Known gAll 85 (.ir [(false, 1), (false, 1), (false, 1), (false, 1)] atlasref01_Set_ir) := known_ir (E := envIrA) (n := 3000) rfl rfl atlasref01_Set_c atlasref01_Set_p
def TIrA : Tbl :=
 (9, .ir [(false, 1)] atlasref05_Is_ir) ::
 (46, .ir [(false, 1)] atlasref05_Of_ir) ::
 (44, .ir [(false, 1)] atlasref05_Size_ir) ::
 (32, .ir [(false, 1), (false, 1)] atlasref05_Index_ir) ::
 (73, .ir [(false, 1), (false, 1)] atlasref01_Sign_ir) ::
 (47, .ir [(false, 1)] atlasref05_Number_ir) ::
 (86, .ir [(false, 1), (false, 1)] bits_Even_ir) ::
 (77, .ir [(false, 1), (false, 1), (false, 1)] bits_Get_ir) ::
 (79, .ir [(false, 1), (false, 1), (false, 1), (false, 1)] bits_Set_ir) ::
 (68, .ir [(false, 1), (false, 1)] va_Offset_ir) ::
 (74, .ir [(false, 1), (false, 1)] atlasref01_Bit_ir) ::
 (37, .ir [(false, 1)] va_Size_ir) ::
 (57, .ir [(false, 1), (false, 1)] va_Index_ir) ::
 (36, .ir [(false, 1), (false, 1)] va_Base_ir) ::
 (89, .ir [(true, 64)] atlasref01_of_ir) ::
 (92, .ir [(false, 1)] bits_mask_ir) ::
 (95, .ir [(false, 1)] bits_Bool_ir) ::
 (85, .ir [(false, 1), (false, 1), (false, 1), (false, 1)] atlasref01_Set_ir) ::
 []
theorem TIrA_ok : ∀ x ∈ TIrA, Known gAll x.1 x.2 :=
 kcons atlasref05_Is_k <|
 kcons atlasref05_Of_k <|
 kcons atlasref05_Size_k <|
 kcons atlasref05_Index_k <|
 kcons atlasref01_Sign_k <|
 kcons atlasref05_Number_k <|
 kcons bits_Even_k <|
 kcons bits_Get_k <|
 kcons bits_Set_k <|
 kcons va_Offset_k <|
 kcons atlasref01_Bit_k <|
 kcons va_Size_k <|
 kcons va_Index_k <|
 kcons va_Base_k <|
 kcons atlasref01_of_k <|
 kcons bits_mask_k <|
 kcons bits_Bool_k <|
 kcons atlasref01_Set_k <|
 fun _ h => nomatch h
end Go.Proofs.YtnkjmocacielmaaDoor.Sx
