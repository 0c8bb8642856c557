/-
  IRs of functions, printed by a program of mine (wip/tools/mkir.py, ev.run.lean); each is checked by the kernel against the executor.
-/
import Derived.Test.YthegeidecapfaaaDoorBf
import Derived.Test.YthegeidecapfaaaDoorProg
namespace Go.Proofs.YthegeidecapfaaaDoor.Sx
open Go
set_option maxRecDepth 100000
noncomputable def envIrA : Env := { P := Tryd.prog, G := gAll, inl := [], unr := [] }
/-- atlas/atlasref05.Is -/
def atlasref05_Is_ir : IR :=
  (.lt (.bin .lss (.v 0) (.c (.i .u64 274877906944))) (.ite (.v 1)
  (.ret [(false, [(.c (.b true))])])
  (.lt (.bin .geq (.v 0) (.c (.i .u64 18446743798831644672))) (.ret [(false, [(.v 2)])]))))
theorem atlasref05_Is_c : compile envIrA 3000 25 = .ok atlasref05_Is_ir := by kernel_rfl
theorem atlasref05_Is_p : paramShape Tryd.prog 25 = some [(false, 1)] := by kernel_rfl
theorem atlasref05_Is_k : Known gAll 25 (.ir [(false, 1)] atlasref05_Is_ir) := known_ir (E := envIrA) (n := 3000) rfl rfl atlasref05_Is_c atlasref05_Is_p
/-- atlas/atlasref05.Base -/
def atlasref05_Base_ir : IR :=
  (.call 27 [(false, [(.v 1)])] [(false, 1)]
  (.lt (.bin .quo (.v 0) (.v 2)) (.call 27 [(false, [(.v 1)])] [(false, 1)]
  (.lt (.bin .mul (.v 3) (.v 4)) (.ret [(false, [(.v 5)])])))))
theorem atlasref05_Base_c : compile envIrA 3000 26 = .ok atlasref05_Base_ir := by kernel_rfl
theorem atlasref05_Base_p : paramShape Tryd.prog 26 = some [(false, 1), (false, 1)] := by kernel_rfl
theorem atlasref05_Base_k : Known gAll 26 (.ir [(false, 1), (false, 1)] atlasref05_Base_ir) := known_ir (E := envIrA) (n := 3000) rfl rfl atlasref05_Base_c atlasref05_Base_p
/-- atlas/atlasref05.Size -/
def atlasref05_Size_ir : IR :=
  (.loop [(.c (.i .u64 4096)), (.c (.i .i64 0))]
  (.lt (.bin .lss (.v 2) (.v 0)) (.ite (.v 3)
  (.lt (.bin .mul (.v 1) (.c (.i .u64 512))) (.lt (.bin .add (.v 2) (.c (.i .i64 1))) (.cont 0 [(.v 4), (.v 5)])))
  (.ret [(false, [(.v 1)])]))))
theorem atlasref05_Size_c : compile envIrA 3000 27 = .ok atlasref05_Size_ir := by kernel_rfl
theorem atlasref05_Size_p : paramShape Tryd.prog 27 = some [(false, 1)] := by kernel_rfl
theorem atlasref05_Size_k : Known gAll 27 (.ir [(false, 1)] atlasref05_Size_ir) := known_ir (E := envIrA) (n := 3000) rfl rfl atlasref05_Size_c atlasref05_Size_p
/-- atlas/atlasref05.Index -/
def atlasref05_Index_ir : IR :=
  (.call 27 [(false, [(.v 1)])] [(false, 1)]
  (.lt (.bin .quo (.v 0) (.v 2)) (.lt (.bin .rem (.v 3) (.c (.i .u64 512))) (.lt (.cv .i64 (.v 4)) (.ret [(false, [(.v 5)])])))))
theorem atlasref05_Index_c : compile envIrA 3000 57 = .ok atlasref05_Index_ir := by kernel_rfl
theorem atlasref05_Index_p : paramShape Tryd.prog 57 = some [(false, 1), (false, 1)] := by kernel_rfl
theorem atlasref05_Index_k : Known gAll 57 (.ir [(false, 1), (false, 1)] atlasref05_Index_ir) := known_ir (E := envIrA) (n := 3000) rfl rfl atlasref05_Index_c atlasref05_Index_p
/-- atlas/bits.Even -/
def bits_Even_ir : IR :=
  (.lt (.bin .eql (.v 1) (.c (.i .u64 0))) (.ite (.v 2)
  (.lt (.bin .eql (.v 0) (.c (.i .u64 0))) (.ret [(false, [(.v 3)])]))
  (.lt (.bin .rem (.v 0) (.v 1)) (.lt (.bin .eql (.v 3) (.c (.i .u64 0))) (.ret [(false, [(.v 4)])])))))
theorem bits_Even_c : compile envIrA 3000 54 = .ok bits_Even_ir := by kernel_rfl
theorem bits_Even_p : paramShape Tryd.prog 54 = some [(false, 1), (false, 1)] := by kernel_rfl
theorem bits_Even_k : Known gAll 54 (.ir [(false, 1), (false, 1)] bits_Even_ir) := known_ir (E := envIrA) (n := 3000) rfl rfl bits_Even_c bits_Even_p
/-- atlas/bits.Get -/
def bits_Get_ir : IR :=
  (.lt (.cv .u64 (.v 1)) (.lt (.bin .shr (.v 0) (.v 3)) (.call 68 [(false, [(.v 2)])] [(false, 1)]
  (.lt (.bin .and (.v 4) (.v 5)) (.ret [(false, [(.v 6)])])))))
theorem bits_Get_c : compile envIrA 3000 51 = .ok bits_Get_ir := by kernel_rfl
theorem bits_Get_p : paramShape Tryd.prog 51 = some [(false, 1), (false, 1), (false, 1)] := by kernel_rfl
theorem bits_Get_k : Known gAll 51 (.ir [(false, 1), (false, 1), (false, 1)] bits_Get_ir) := known_ir (E := envIrA) (n := 3000) rfl rfl bits_Get_c bits_Get_p
/-- atlas/bits.Set -/
def bits_Set_ir : IR :=
  (.call 68 [(false, [(.v 2)])] [(false, 1)]
  (.lt (.cv .u64 (.v 1)) (.lt (.bin .shl (.v 4) (.v 5)) (.lt (.bin .andNot (.v 0) (.v 6)) (.lt (.cv .u64 (.v 1)) (.lt (.bin .shl (.v 3) (.v 8)) (.lt (.bin .and (.v 9) (.v 6)) (.lt (.bin .or (.v 7) (.v 10)) (.ret [(false, [(.v 11)])])))))))))
theorem bits_Set_c : compile envIrA 3000 65 = .ok bits_Set_ir := by kernel_rfl
theorem bits_Set_p : paramShape Tryd.prog 65 = some [(false, 1), (false, 1), (false, 1), (false, 1)] := by kernel_rfl
theorem bits_Set_k : Known gAll 65 (.ir [(false, 1), (false, 1), (false, 1), (false, 1)] bits_Set_ir) := known_ir (E := envIrA) (n := 3000) rfl rfl bits_Set_c bits_Set_p
/-- atlas/va.Is -/
def va_Is_ir : IR :=
  (.call 47 [(false, [(.v 0)]), (false, [(.c (.i .i64 39))])] [(false, 1)]
  (.lt (.bin .eql (.v 1) (.v 0)) (.ret [(false, [(.v 2)])])))
theorem va_Is_c : compile envIrA 3000 29 = .ok va_Is_ir := by kernel_rfl
theorem va_Is_p : paramShape Tryd.prog 29 = some [(false, 1)] := by kernel_rfl
theorem va_Is_k : Known gAll 29 (.ir [(false, 1)] va_Is_ir) := known_ir (E := envIrA) (n := 3000) rfl rfl va_Is_c va_Is_p
/-- atlas/va.Offset -/
def va_Offset_ir : IR :=
  (.chk (.rng (.v 1) 3) (.lt (.bin .sub (selE (.v 1) 0 [(.c (.i .u64 4096)), (.c (.i .u64 2097152)), (.c (.i .u64 1073741824))]) (.c (.i .u64 1))) (.lt (.bin .and (.v 0) (.v 2)) (.ret [(false, [(.v 3)])]))))
theorem va_Offset_c : compile envIrA 3000 39 = .ok va_Offset_ir := by kernel_rfl
theorem va_Offset_p : paramShape Tryd.prog 39 = some [(false, 1), (false, 1)] := by kernel_rfl
theorem va_Offset_k : Known gAll 39 (.ir [(false, 1), (false, 1)] va_Offset_ir) := known_ir (E := envIrA) (n := 3000) rfl rfl va_Offset_c va_Offset_p
/-- atlas/atlasref05.Offset -/
def atlasref05_Offset_ir : IR :=
  (.call 27 [(false, [(.v 1)])] [(false, 1)]
  (.lt (.bin .rem (.v 0) (.v 2)) (.ret [(false, [(.v 3)])])))
theorem atlasref05_Offset_c : compile envIrA 3000 40 = .ok atlasref05_Offset_ir := by kernel_rfl
theorem atlasref05_Offset_p : paramShape Tryd.prog 40 = some [(false, 1), (false, 1)] := by kernel_rfl
theorem atlasref05_Offset_k : Known gAll 40 (.ir [(false, 1), (false, 1)] atlasref05_Offset_ir) := known_ir (E := envIrA) (n := 3000) rfl rfl atlasref05_Offset_c atlasref05_Offset_p
/-- atlas/atlasref01.Bit -/
def atlasref01_Bit_ir : IR :=
  (.lt (.bin .lss (.v 1) (.c (.i .i64 0))) (.ite (.v 2)
  (.ret [(false, [(.c (.b false))])])
  (.lt (.bin .gtr (.v 1) (.c (.i .i64 63))) (.ite (.v 3)
  (.ret [(false, [(.c (.b false))])])
  (.loop [(.v 0), (.c (.i .i64 0))]
  (.lt (.bin .lss (.v 5) (.v 1)) (.ite (.v 6)
  (.lt (.bin .quo (.v 4) (.c (.i .u64 2))) (.lt (.bin .add (.v 5) (.c (.i .i64 1))) (.cont 0 [(.v 7), (.v 8)])))
  (.lt (.bin .rem (.v 4) (.c (.i .u64 2))) (.lt (.bin .eql (.v 7) (.c (.i .u64 1))) (.ret [(false, [(.v 8)])]))))))))))
theorem atlasref01_Bit_c : compile envIrA 3000 69 = .ok atlasref01_Bit_ir := by kernel_rfl
theorem atlasref01_Bit_p : paramShape Tryd.prog 69 = some [(false, 1), (false, 1)] := by kernel_rfl
theorem atlasref01_Bit_k : Known gAll 69 (.ir [(false, 1), (false, 1)] atlasref01_Bit_ir) := known_ir (E := envIrA) (n := 3000) rfl rfl atlasref01_Bit_c atlasref01_Bit_p
/-- atlas/va.Size -/
def va_Size_ir : IR :=
  (.chk (.rng (.v 0) 3) (.ret [(false, [(selE (.v 0) 0 [(.c (.i .u64 4096)), (.c (.i .u64 2097152)), (.c (.i .u64 1073741824))])])]))
theorem va_Size_c : compile envIrA 3000 55 = .ok va_Size_ir := by kernel_rfl
theorem va_Size_p : paramShape Tryd.prog 55 = some [(false, 1)] := by kernel_rfl
theorem va_Size_k : Known gAll 55 (.ir [(false, 1)] va_Size_ir) := known_ir (E := envIrA) (n := 3000) rfl rfl va_Size_c va_Size_p
/-- atlas/va.Index -/
def va_Index_ir : IR :=
  (.lt (.bin .mul (.c (.i .i64 9)) (.v 1)) (.lt (.bin .add (.c (.i .i64 12)) (.v 2)) (.call 51 [(false, [(.v 0)]), (false, [(.v 3)]), (false, [(.c (.i .i64 9))])] [(false, 1)]
  (.lt (.cv .i64 (.v 4)) (.ret [(false, [(.v 5)])])))))
theorem va_Index_c : compile envIrA 3000 49 = .ok va_Index_ir := by kernel_rfl
theorem va_Index_p : paramShape Tryd.prog 49 = some [(false, 1), (false, 1)] := by kernel_rfl
theorem va_Index_k : Known gAll 49 (.ir [(false, 1), (false, 1)] va_Index_ir) := known_ir (E := envIrA) (n := 3000) rfl rfl va_Index_c va_Index_p
/-- atlas/bits.mask -/
def bits_mask_ir : IR :=
  (.lt (.bin .geq (.v 0) (.c (.i .i64 64))) (.ite (.v 1)
  (.ret [(false, [(.c (.i .u64 18446744073709551615))])])
  (.lt (.cv .u64 (.v 0)) (.lt (.bin .shl (.c (.i .u64 1)) (.v 2)) (.lt (.bin .sub (.v 3) (.c (.i .u64 1))) (.ret [(false, [(.v 4)])]))))))
theorem bits_mask_c : compile envIrA 3000 68 = .ok bits_mask_ir := by kernel_rfl
theorem bits_mask_p : paramShape Tryd.prog 68 = some [(false, 1)] := by kernel_rfl
theorem bits_mask_k : Known gAll 68 (.ir [(false, 1)] bits_mask_ir) := known_ir (E := envIrA) (n := 3000) rfl rfl bits_mask_c bits_mask_p
/-- atlas/bits.Bool -/
def bits_Bool_ir : IR :=
  (.ite (.v 0)
  (.ret [(false, [(.c (.i .u64 1))])])
  (.ret [(false, [(.c (.i .u64 0))])]))
theorem bits_Bool_c : compile envIrA 3000 75 = .ok bits_Bool_ir := by kernel_rfl
theorem bits_Bool_p : paramShape Tryd.prog 75 = some [(false, 1)] := by kernel_rfl
theorem bits_Bool_k : Known gAll 75 (.ir [(false, 1)] bits_Bool_ir) := known_ir (E := envIrA) (n := 3000) rfl rfl bits_Bool_c bits_Bool_p
/-- atlas/bits.Sign -/
def bits_Sign_ir : IR :=
  (.lt (.bin .sub (.c (.i .i64 64)) (.v 1)) (.lt (.cv .u64 (.v 2)) (.lt (.bin .shl (.v 0) (.v 3)) (.lt (.cv .i64 (.v 4)) (.lt (.bin .shr (.v 5) (.v 3)) (.lt (.cv .u64 (.v 6)) (.ret [(false, [(.v 7)])])))))))
theorem bits_Sign_c : compile envIrA 3000 47 = .ok bits_Sign_ir := by kernel_rfl
theorem bits_Sign_p : paramShape Tryd.prog 47 = some [(false, 1), (false, 1)] := by kernel_rfl
theorem bits_Sign_k : Known gAll 47 (.ir [(false, 1), (false, 1)] bits_Sign_ir) := known_ir (E := envIrA) (n := 3000) rfl rfl bits_Sign_c bits_Sign_p
def TIrA : Tbl :=
  (25, .ir [(false, 1)] atlasref05_Is_ir) ::
  (26, .ir [(false, 1), (false, 1)] atlasref05_Base_ir) ::
  (27, .ir [(false, 1)] atlasref05_Size_ir) ::
  (57, .ir [(false, 1), (false, 1)] atlasref05_Index_ir) ::
  (54, .ir [(false, 1), (false, 1)] bits_Even_ir) ::
  (51, .ir [(false, 1), (false, 1), (false, 1)] bits_Get_ir) ::
  (65, .ir [(false, 1), (false, 1), (false, 1), (false, 1)] bits_Set_ir) ::
  (29, .ir [(false, 1)] va_Is_ir) ::
  (39, .ir [(false, 1), (false, 1)] va_Offset_ir) ::
  (40, .ir [(false, 1), (false, 1)] atlasref05_Offset_ir) ::
  (69, .ir [(false, 1), (false, 1)] atlasref01_Bit_ir) ::
  (55, .ir [(false, 1)] va_Size_ir) ::
  (49, .ir [(false, 1), (false, 1)] va_Index_ir) ::
  (68, .ir [(false, 1)] bits_mask_ir) ::
  (75, .ir [(false, 1)] bits_Bool_ir) ::
  (47, .ir [(false, 1), (false, 1)] bits_Sign_ir) ::
  []
theorem TIrA_ok : ∀ x ∈ TIrA, Known gAll x.1 x.2 :=
  kcons atlasref05_Is_k <|
  kcons atlasref05_Base_k <|
  kcons atlasref05_Size_k <|
  kcons atlasref05_Index_k <|
  kcons bits_Even_k <|
  kcons bits_Get_k <|
  kcons bits_Set_k <|
  kcons va_Is_k <|
  kcons va_Offset_k <|
  kcons atlasref05_Offset_k <|
  kcons atlasref01_Bit_k <|
  kcons va_Size_k <|
  kcons va_Index_k <|
  kcons bits_mask_k <|
  kcons bits_Bool_k <|
  kcons bits_Sign_k <|
  fun _ h => nomatch h
end Go.Proofs.YthegeidecapfaaaDoor.Sx
