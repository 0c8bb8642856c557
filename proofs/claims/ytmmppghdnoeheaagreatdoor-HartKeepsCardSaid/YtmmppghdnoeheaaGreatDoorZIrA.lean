/-
  IRs of functions, printed by a program of mine (wip/tools/mkir.py, ev.run.lean); each is checked by the kernel against the executor.
-/
import Derived.Test.YtmmppghdnoeheaaGreatDoorZBf
import Derived.Test.YtmmppghdnoeheaaGreatDoorProg
namespace Go.Proofs.YtmmppghdnoeheaaGreatDoor.Sx
open Go
set_option maxRecDepth 100000
noncomputable def envIrA : Env := { P := Tryz.prog, G := gAll, inl := [], unr := [] }
def atlasref05_Is_ir : IR :=
  (.lt (.bin .lss (.v 0) (.c (.i .u64 274877906944))) (.ite (.v 1)
  (.ret [(false, [(.c (.b true))])])
  (.lt (.bin .geq (.v 0) (.c (.i .u64 18446743798831644672))) (.ret [(false, [(.v 2)])]))))
theorem atlasref05_Is_c : compile envIrA 3000 44 = .ok atlasref05_Is_ir := by kernel_rfl
theorem atlasref05_Is_p : paramShape Tryz.prog 44 = some [(false, 1)] := by kernel_rfl
theorem atlasref05_Is_k : Known gAll 44 (.ir [(false, 1)] atlasref05_Is_ir) := known_ir (E := envIrA) (n := 3000) rfl rfl atlasref05_Is_c atlasref05_Is_p
def atlasref05_Of_ir : IR :=
  (.lt (.bin .rem (.v 0) (.c (.i .u64 134217728))) (.lt (.bin .mul (.v 1) (.c (.i .u64 4096))) (.call 47 [(false, [(.v 2)]), (false, [(.c (.i .i64 39))])] [(false, 1)]
  (.ret [(false, [(.v 3)])]))))
theorem atlasref05_Of_c : compile envIrA 3000 26 = .ok atlasref05_Of_ir := by kernel_rfl
theorem atlasref05_Of_p : paramShape Tryz.prog 26 = some [(false, 1)] := by kernel_rfl
theorem atlasref05_Of_k : Known gAll 26 (.ir [(false, 1)] atlasref05_Of_ir) := known_ir (E := envIrA) (n := 3000) rfl rfl atlasref05_Of_c atlasref05_Of_p
def atlasref05_Size_ir : IR :=
  (.loop [(.c (.i .u64 4096)), (.c (.i .i64 0))]
  (.lt (.bin .lss (.v 2) (.v 0)) (.ite (.v 3)
  (.lt (.bin .mul (.v 1) (.c (.i .u64 512))) (.lt (.bin .add (.v 2) (.c (.i .i64 1))) (.cont 0 [(.v 4), (.v 5)])))
  (.ret [(false, [(.v 1)])]))))
theorem atlasref05_Size_c : compile envIrA 3000 107 = .ok atlasref05_Size_ir := by kernel_rfl
theorem atlasref05_Size_p : paramShape Tryz.prog 107 = some [(false, 1)] := by kernel_rfl
theorem atlasref05_Size_k : Known gAll 107 (.ir [(false, 1)] atlasref05_Size_ir) := known_ir (E := envIrA) (n := 3000) rfl rfl atlasref05_Size_c atlasref05_Size_p
def atlasref05_Index_ir : IR :=
  (.call 107 [(false, [(.v 1)])] [(false, 1)]
  (.lt (.bin .quo (.v 0) (.v 2)) (.lt (.bin .rem (.v 3) (.c (.i .u64 512))) (.lt (.cv .i64 (.v 4)) (.ret [(false, [(.v 5)])])))))
theorem atlasref05_Index_c : compile envIrA 3000 77 = .ok atlasref05_Index_ir := by kernel_rfl
theorem atlasref05_Index_p : paramShape Tryz.prog 77 = some [(false, 1), (false, 1)] := by kernel_rfl
theorem atlasref05_Index_k : Known gAll 77 (.ir [(false, 1), (false, 1)] atlasref05_Index_ir) := known_ir (E := envIrA) (n := 3000) rfl rfl atlasref05_Index_c atlasref05_Index_p
def atlasref01_Sign_ir : IR :=
  (.loop [(.c (.i .i64 0)), (.c (.b false)), (.c (.b false)), (.c (.b false)), (.c (.b false)), (.c (.b false)), (.c (.b false)), (.c (.b false)), (.c (.b false)), (.c (.b false)), (.c (.b false)), (.c (.b false)), (.c (.b false)), (.c (.b false)), (.c (.b false)), (.c (.b false)), (.c (.b false)), (.c (.b false)), (.c (.b false)), (.c (.b false)), (.c (.b false)), (.c (.b false)), (.c (.b false)), (.c (.b false)), (.c (.b false)), (.c (.b false)), (.c (.b false)), (.c (.b false)), (.c (.b false)), (.c (.b false)), (.c (.b false)), (.c (.b false)), (.c (.b false)), (.c (.b false)), (.c (.b false)), (.c (.b false)), (.c (.b false)), (.c (.b false)), (.c (.b false)), (.c (.b false)), (.c (.b false)), (.c (.b false)), (.c (.b false)), (.c (.b false)), (.c (.b false)), (.c (.b false)), (.c (.b false)), (.c (.b false)), (.c (.b false)), (.c (.b false)), (.c (.b false)), (.c (.b false)), (.c (.b false)), (.c (.b false)), (.c (.b false)), (.c (.b false)), (.c (.b false)), (.c (.b false)), (.c (.b false)), (.c (.b false)), (.c (.b false)), (.c (.b false)), (.c (.b false)), (.c (.b false)), (.c (.b false))]
  (.lt (.bin .lss (.v 2) (.c (.i .i64 64))) (.ite (.v 67)
  (.lt (.bin .sub (.v 1) (.c (.i .i64 1))) (.lt (.ite (.bin .lss (.v 68) (.v 2)) (.v 68) (.v 2)) (.call 81 [(false, [(.v 0)]), (false, [(.v 69)])] [(false, 1)]
  (.chk (.rng (.v 2) 64) (.lt (.bin .add (.v 2) (.c (.i .i64 1))) (.cont 0 ([(.v 71)] ++ putV 2 0 70 (vr 3 64))))))))
  (.call 82 [(true, (vr 3 64))] [(false, 1)]
  (.ret [(false, [(.v 68)])])))))
theorem atlasref01_Sign_c : compile envIrA 3000 47 = .ok atlasref01_Sign_ir := by kernel_rfl
theorem atlasref01_Sign_p : paramShape Tryz.prog 47 = some [(false, 1), (false, 1)] := by kernel_rfl
theorem atlasref01_Sign_k : Known gAll 47 (.ir [(false, 1), (false, 1)] atlasref01_Sign_ir) := known_ir (E := envIrA) (n := 3000) rfl rfl atlasref01_Sign_c atlasref01_Sign_p
def va_Number_ir : IR :=
  (.call 73 [(false, [(.v 0)]), (false, [(.c (.i .i64 12))]), (false, [(.c (.i .i64 27))])] [(false, 1)]
  (.ret [(false, [(.v 1)])]))
theorem va_Number_c : compile envIrA 3000 83 = .ok va_Number_ir := by kernel_rfl
theorem va_Number_p : paramShape Tryz.prog 83 = some [(false, 1)] := by kernel_rfl
theorem va_Number_k : Known gAll 83 (.ir [(false, 1)] va_Number_ir) := known_ir (E := envIrA) (n := 3000) rfl rfl va_Number_c va_Number_p
def bits_Even_ir : IR :=
  (.lt (.bin .eql (.v 1) (.c (.i .u64 0))) (.ite (.v 2)
  (.lt (.bin .eql (.v 0) (.c (.i .u64 0))) (.ret [(false, [(.v 3)])]))
  (.lt (.bin .rem (.v 0) (.v 1)) (.lt (.bin .eql (.v 3) (.c (.i .u64 0))) (.ret [(false, [(.v 4)])])))))
theorem bits_Even_c : compile envIrA 3000 28 = .ok bits_Even_ir := by kernel_rfl
theorem bits_Even_p : paramShape Tryz.prog 28 = some [(false, 1), (false, 1)] := by kernel_rfl
theorem bits_Even_k : Known gAll 28 (.ir [(false, 1), (false, 1)] bits_Even_ir) := known_ir (E := envIrA) (n := 3000) rfl rfl bits_Even_c bits_Even_p
def bits_Get_ir : IR :=
  (.lt (.cv .u64 (.v 1)) (.lt (.bin .shr (.v 0) (.v 3)) (.call 101 [(false, [(.v 2)])] [(false, 1)]
  (.lt (.bin .and (.v 4) (.v 5)) (.ret [(false, [(.v 6)])])))))
theorem bits_Get_c : compile envIrA 3000 73 = .ok bits_Get_ir := by kernel_rfl
theorem bits_Get_p : paramShape Tryz.prog 73 = some [(false, 1), (false, 1), (false, 1)] := by kernel_rfl
theorem bits_Get_k : Known gAll 73 (.ir [(false, 1), (false, 1), (false, 1)] bits_Get_ir) := known_ir (E := envIrA) (n := 3000) rfl rfl bits_Get_c bits_Get_p
def bits_Set_ir : IR :=
  (.call 101 [(false, [(.v 2)])] [(false, 1)]
  (.lt (.cv .u64 (.v 1)) (.lt (.bin .shl (.v 4) (.v 5)) (.lt (.bin .andNot (.v 0) (.v 6)) (.lt (.cv .u64 (.v 1)) (.lt (.bin .shl (.v 3) (.v 8)) (.lt (.bin .and (.v 9) (.v 6)) (.lt (.bin .or (.v 7) (.v 10)) (.ret [(false, [(.v 11)])])))))))))
theorem bits_Set_c : compile envIrA 3000 70 = .ok bits_Set_ir := by kernel_rfl
theorem bits_Set_p : paramShape Tryz.prog 70 = some [(false, 1), (false, 1), (false, 1), (false, 1)] := by kernel_rfl
theorem bits_Set_k : Known gAll 70 (.ir [(false, 1), (false, 1), (false, 1), (false, 1)] bits_Set_ir) := known_ir (E := envIrA) (n := 3000) rfl rfl bits_Set_c bits_Set_p
def va_Is_ir : IR :=
  (.call 69 [(false, [(.v 0)]), (false, [(.c (.i .i64 39))])] [(false, 1)]
  (.lt (.bin .eql (.v 1) (.v 0)) (.ret [(false, [(.v 2)])])))
theorem va_Is_c : compile envIrA 3000 50 = .ok va_Is_ir := by kernel_rfl
theorem va_Is_p : paramShape Tryz.prog 50 = some [(false, 1)] := by kernel_rfl
theorem va_Is_k : Known gAll 50 (.ir [(false, 1)] va_Is_ir) := known_ir (E := envIrA) (n := 3000) rfl rfl va_Is_c va_Is_p
def va_Offset_ir : IR :=
  (.chk (.rng (.v 1) 3) (.lt (.bin .sub (selE (.v 1) 0 [(.c (.i .u64 4096)), (.c (.i .u64 2097152)), (.c (.i .u64 1073741824))]) (.c (.i .u64 1))) (.lt (.bin .and (.v 0) (.v 2)) (.ret [(false, [(.v 3)])]))))
theorem va_Offset_c : compile envIrA 3000 88 = .ok va_Offset_ir := by kernel_rfl
theorem va_Offset_p : paramShape Tryz.prog 88 = some [(false, 1), (false, 1)] := by kernel_rfl
theorem va_Offset_k : Known gAll 88 (.ir [(false, 1), (false, 1)] va_Offset_ir) := known_ir (E := envIrA) (n := 3000) rfl rfl va_Offset_c va_Offset_p
def atlasref01_Bit_ir : IR :=
  (.lt (.bin .lss (.v 1) (.c (.i .i64 0))) (.ite (.v 2)
  (.ret [(false, [(.c (.b false))])])
  (.lt (.bin .gtr (.v 1) (.c (.i .i64 63))) (.ite (.v 3)
  (.ret [(false, [(.c (.b false))])])
  (.loop [(.v 0), (.c (.i .i64 0))]
  (.lt (.bin .lss (.v 5) (.v 1)) (.ite (.v 6)
  (.lt (.bin .quo (.v 4) (.c (.i .u64 2))) (.lt (.bin .add (.v 5) (.c (.i .i64 1))) (.cont 0 [(.v 7), (.v 8)])))
  (.lt (.bin .rem (.v 4) (.c (.i .u64 2))) (.lt (.bin .eql (.v 7) (.c (.i .u64 1))) (.ret [(false, [(.v 8)])]))))))))))
theorem atlasref01_Bit_c : compile envIrA 3000 81 = .ok atlasref01_Bit_ir := by kernel_rfl
theorem atlasref01_Bit_p : paramShape Tryz.prog 81 = some [(false, 1), (false, 1)] := by kernel_rfl
theorem atlasref01_Bit_k : Known gAll 81 (.ir [(false, 1), (false, 1)] atlasref01_Bit_ir) := known_ir (E := envIrA) (n := 3000) rfl rfl atlasref01_Bit_c atlasref01_Bit_p
def va_Size_ir : IR :=
  (.chk (.rng (.v 0) 3) (.ret [(false, [(selE (.v 0) 0 [(.c (.i .u64 4096)), (.c (.i .u64 2097152)), (.c (.i .u64 1073741824))])])]))
theorem va_Size_c : compile envIrA 3000 100 = .ok va_Size_ir := by kernel_rfl
theorem va_Size_p : paramShape Tryz.prog 100 = some [(false, 1)] := by kernel_rfl
theorem va_Size_k : Known gAll 100 (.ir [(false, 1)] va_Size_ir) := known_ir (E := envIrA) (n := 3000) rfl rfl va_Size_c va_Size_p
def va_Of_ir : IR :=
  (.call 70 [(false, [(.c (.i .u64 0))]), (false, [(.c (.i .i64 12))]), (false, [(.c (.i .i64 27))]), (false, [(.v 0)])] [(false, 1)]
  (.call 69 [(false, [(.v 1)]), (false, [(.c (.i .i64 39))])] [(false, 1)]
  (.ret [(false, [(.v 2)])])))
theorem va_Of_c : compile envIrA 3000 34 = .ok va_Of_ir := by kernel_rfl
theorem va_Of_p : paramShape Tryz.prog 34 = some [(false, 1)] := by kernel_rfl
theorem va_Of_k : Known gAll 34 (.ir [(false, 1)] va_Of_ir) := known_ir (E := envIrA) (n := 3000) rfl rfl va_Of_c va_Of_p
def va_Index_ir : IR :=
  (.lt (.bin .mul (.c (.i .i64 9)) (.v 1)) (.lt (.bin .add (.c (.i .i64 12)) (.v 2)) (.call 73 [(false, [(.v 0)]), (false, [(.v 3)]), (false, [(.c (.i .i64 9))])] [(false, 1)]
  (.lt (.cv .i64 (.v 4)) (.ret [(false, [(.v 5)])])))))
theorem va_Index_c : compile envIrA 3000 97 = .ok va_Index_ir := by kernel_rfl
theorem va_Index_p : paramShape Tryz.prog 97 = some [(false, 1), (false, 1)] := by kernel_rfl
theorem va_Index_k : Known gAll 97 (.ir [(false, 1), (false, 1)] va_Index_ir) := known_ir (E := envIrA) (n := 3000) rfl rfl va_Index_c va_Index_p
def va_Base_ir : IR :=
  (.call 88 [(false, [(.v 0)]), (false, [(.v 1)])] [(false, 1)]
  (.lt (.bin .sub (.v 0) (.v 2)) (.ret [(false, [(.v 3)])])))
theorem va_Base_c : compile envIrA 3000 92 = .ok va_Base_ir := by kernel_rfl
theorem va_Base_p : paramShape Tryz.prog 92 = some [(false, 1), (false, 1)] := by kernel_rfl
theorem va_Base_k : Known gAll 92 (.ir [(false, 1), (false, 1)] va_Base_ir) := known_ir (E := envIrA) (n := 3000) rfl rfl va_Base_c va_Base_p
def atlasref01_of_ir : IR :=
  (.loop [(.c (.i .u64 0)), (.c (.i .i64 63))]
  (.lt (.bin .geq (.v 65) (.c (.i .i64 0))) (.ite (.v 66)
  (.lt (.bin .mul (.v 64) (.c (.i .u64 2))) (.chk (.rng (.v 65) 64) (.ite (selE (.v 65) 0 (vr 0 64))
  (.lt (.bin .add (.v 67) (.c (.i .u64 1))) (.lt (.bin .sub (.v 65) (.c (.i .i64 1))) (.cont 0 [(.v 68), (.v 69)])))
  (.lt (.bin .sub (.v 65) (.c (.i .i64 1))) (.cont 0 [(.v 67), (.v 68)])))))
  (.ret [(false, [(.v 64)])]))))
theorem atlasref01_of_c : compile envIrA 3000 82 = .ok atlasref01_of_ir := by kernel_rfl
theorem atlasref01_of_p : paramShape Tryz.prog 82 = some [(true, 64)] := by kernel_rfl
theorem atlasref01_of_k : Known gAll 82 (.ir [(true, 64)] atlasref01_of_ir) := known_ir (E := envIrA) (n := 3000) rfl rfl atlasref01_of_c atlasref01_of_p
def bits_mask_ir : IR :=
  (.lt (.bin .geq (.v 0) (.c (.i .i64 64))) (.ite (.v 1)
  (.ret [(false, [(.c (.i .u64 18446744073709551615))])])
  (.lt (.cv .u64 (.v 0)) (.lt (.bin .shl (.c (.i .u64 1)) (.v 2)) (.lt (.bin .sub (.v 3) (.c (.i .u64 1))) (.ret [(false, [(.v 4)])]))))))
theorem bits_mask_c : compile envIrA 3000 101 = .ok bits_mask_ir := by kernel_rfl
theorem bits_mask_p : paramShape Tryz.prog 101 = some [(false, 1)] := by kernel_rfl
theorem bits_mask_k : Known gAll 101 (.ir [(false, 1)] bits_mask_ir) := known_ir (E := envIrA) (n := 3000) rfl rfl bits_mask_c bits_mask_p
def bits_Bool_ir : IR :=
  (.ite (.v 0)
  (.ret [(false, [(.c (.i .u64 1))])])
  (.ret [(false, [(.c (.i .u64 0))])]))
theorem bits_Bool_c : compile envIrA 3000 136 = .ok bits_Bool_ir := by kernel_rfl
theorem bits_Bool_p : paramShape Tryz.prog 136 = some [(false, 1)] := by kernel_rfl
theorem bits_Bool_k : Known gAll 136 (.ir [(false, 1)] bits_Bool_ir) := known_ir (E := envIrA) (n := 3000) rfl rfl bits_Bool_c bits_Bool_p
def bits_Sign_ir : IR :=
  (.lt (.bin .sub (.c (.i .i64 64)) (.v 1)) (.lt (.cv .u64 (.v 2)) (.lt (.bin .shl (.v 0) (.v 3)) (.lt (.cv .i64 (.v 4)) (.lt (.bin .shr (.v 5) (.v 3)) (.lt (.cv .u64 (.v 6)) (.ret [(false, [(.v 7)])])))))))
theorem bits_Sign_c : compile envIrA 3000 69 = .ok bits_Sign_ir := by kernel_rfl
theorem bits_Sign_p : paramShape Tryz.prog 69 = some [(false, 1), (false, 1)] := by kernel_rfl
theorem bits_Sign_k : Known gAll 69 (.ir [(false, 1), (false, 1)] bits_Sign_ir) := known_ir (E := envIrA) (n := 3000) rfl rfl bits_Sign_c bits_Sign_p
def TIrA : Tbl :=
  (44, .ir [(false, 1)] atlasref05_Is_ir) ::
  (26, .ir [(false, 1)] atlasref05_Of_ir) ::
  (107, .ir [(false, 1)] atlasref05_Size_ir) ::
  (77, .ir [(false, 1), (false, 1)] atlasref05_Index_ir) ::
  (47, .ir [(false, 1), (false, 1)] atlasref01_Sign_ir) ::
  (83, .ir [(false, 1)] va_Number_ir) ::
  (28, .ir [(false, 1), (false, 1)] bits_Even_ir) ::
  (73, .ir [(false, 1), (false, 1), (false, 1)] bits_Get_ir) ::
  (70, .ir [(false, 1), (false, 1), (false, 1), (false, 1)] bits_Set_ir) ::
  (50, .ir [(false, 1)] va_Is_ir) ::
  (88, .ir [(false, 1), (false, 1)] va_Offset_ir) ::
  (81, .ir [(false, 1), (false, 1)] atlasref01_Bit_ir) ::
  (100, .ir [(false, 1)] va_Size_ir) ::
  (34, .ir [(false, 1)] va_Of_ir) ::
  (97, .ir [(false, 1), (false, 1)] va_Index_ir) ::
  (92, .ir [(false, 1), (false, 1)] va_Base_ir) ::
  (82, .ir [(true, 64)] atlasref01_of_ir) ::
  (101, .ir [(false, 1)] bits_mask_ir) ::
  (136, .ir [(false, 1)] bits_Bool_ir) ::
  (69, .ir [(false, 1), (false, 1)] bits_Sign_ir) ::
  []
theorem TIrA_ok : ∀ x ∈ TIrA, Known gAll x.1 x.2 :=
  kcons atlasref05_Is_k <|
  kcons atlasref05_Of_k <|
  kcons atlasref05_Size_k <|
  kcons atlasref05_Index_k <|
  kcons atlasref01_Sign_k <|
  kcons va_Number_k <|
  kcons bits_Even_k <|
  kcons bits_Get_k <|
  kcons bits_Set_k <|
  kcons va_Is_k <|
  kcons va_Offset_k <|
  kcons atlasref01_Bit_k <|
  kcons va_Size_k <|
  kcons va_Of_k <|
  kcons va_Index_k <|
  kcons va_Base_k <|
  kcons atlasref01_of_k <|
  kcons bits_mask_k <|
  kcons bits_Bool_k <|
  kcons bits_Sign_k <|
  fun _ h => nomatch h
end Go.Proofs.YtmmppghdnoeheaaGreatDoor.Sx
