/-
  IRs of functions, printed by a program of mine (wip/tools/mkir.py, ev.run.lean); each is checked by the kernel against the executor.
-/
import Derived.Test.YtlihbielphcgbaaGreatDoorBf
import Derived.Test.YtlihbielphcgbaaGreatDoorProg
namespace Go.Proofs.YtlihbielphcgbaaGreatDoor.Sx
open Go
set_option maxRecDepth 100000
noncomputable def envIrA : Env := { P := Tryz.prog, G := gAll, inl := [], unr := [] }
/-- atlas/atlasref05.Is -/
def atlasref05_Is_ir : IR :=
  (.lt (.bin .lss (.v 0) (.c (.i .u64 274877906944))) (.ite (.v 1)
  (.ret [(false, [(.c (.b true))])])
  (.lt (.bin .geq (.v 0) (.c (.i .u64 18446743798831644672))) (.ret [(false, [(.v 2)])]))))
theorem atlasref05_Is_c : compile envIrA 3000 117 = .ok atlasref05_Is_ir := by kernel_rfl
theorem atlasref05_Is_p : paramShape Tryz.prog 117 = some [(false, 1)] := by kernel_rfl
theorem atlasref05_Is_k : Known gAll 117 (.ir [(false, 1)] atlasref05_Is_ir) := known_ir (E := envIrA) (n := 3000) rfl rfl atlasref05_Is_c atlasref05_Is_p
/-- atlas/atlasref05.Size -/
def atlasref05_Size_ir : IR :=
  (.loop [(.c (.i .u64 4096)), (.c (.i .i64 0))]
  (.lt (.bin .lss (.v 2) (.v 0)) (.ite (.v 3)
  (.lt (.bin .mul (.v 1) (.c (.i .u64 512))) (.lt (.bin .add (.v 2) (.c (.i .i64 1))) (.cont 0 [(.v 4), (.v 5)])))
  (.ret [(false, [(.v 1)])]))))
theorem atlasref05_Size_c : compile envIrA 3000 43 = .ok atlasref05_Size_ir := by kernel_rfl
theorem atlasref05_Size_p : paramShape Tryz.prog 43 = some [(false, 1)] := by kernel_rfl
theorem atlasref05_Size_k : Known gAll 43 (.ir [(false, 1)] atlasref05_Size_ir) := known_ir (E := envIrA) (n := 3000) rfl rfl atlasref05_Size_c atlasref05_Size_p
/-- atlas/atlasref05.Fits -/
def atlasref05_Fits_ir : IR :=
  (.call 117 [(false, [(.v 0)])] [(false, 1)]
  (.ite (.v 2)
  (.call 118 [(false, [(.v 0)]), (false, [(.v 1)])] [(false, 1)]
  (.lt (.bin .eql (.v 3) (.c (.i .u64 0))) (.ret [(false, [(.v 4)])])))
  (.ret [(false, [(.c (.b false))])])))
theorem atlasref05_Fits_c : compile envIrA 3000 87 = .ok atlasref05_Fits_ir := by kernel_rfl
theorem atlasref05_Fits_p : paramShape Tryz.prog 87 = some [(false, 1), (false, 1)] := by kernel_rfl
theorem atlasref05_Fits_k : Known gAll 87 (.ir [(false, 1), (false, 1)] atlasref05_Fits_ir) := known_ir (E := envIrA) (n := 3000) rfl rfl atlasref05_Fits_c atlasref05_Fits_p
/-- atlas/atlasref05.Index -/
def atlasref05_Index_ir : IR :=
  (.call 43 [(false, [(.v 1)])] [(false, 1)]
  (.lt (.bin .quo (.v 0) (.v 2)) (.lt (.bin .rem (.v 3) (.c (.i .u64 512))) (.lt (.cv .i64 (.v 4)) (.ret [(false, [(.v 5)])])))))
theorem atlasref05_Index_c : compile envIrA 3000 54 = .ok atlasref05_Index_ir := by kernel_rfl
theorem atlasref05_Index_p : paramShape Tryz.prog 54 = some [(false, 1), (false, 1)] := by kernel_rfl
theorem atlasref05_Index_k : Known gAll 54 (.ir [(false, 1), (false, 1)] atlasref05_Index_ir) := known_ir (E := envIrA) (n := 3000) rfl rfl atlasref05_Index_c atlasref05_Index_p
/-- atlas/bits.Even -/
def bits_Even_ir : IR :=
  (.lt (.bin .eql (.v 1) (.c (.i .u64 0))) (.ite (.v 2)
  (.lt (.bin .eql (.v 0) (.c (.i .u64 0))) (.ret [(false, [(.v 3)])]))
  (.lt (.bin .rem (.v 0) (.v 1)) (.lt (.bin .eql (.v 3) (.c (.i .u64 0))) (.ret [(false, [(.v 4)])])))))
theorem bits_Even_c : compile envIrA 3000 68 = .ok bits_Even_ir := by kernel_rfl
theorem bits_Even_p : paramShape Tryz.prog 68 = some [(false, 1), (false, 1)] := by kernel_rfl
theorem bits_Even_k : Known gAll 68 (.ir [(false, 1), (false, 1)] bits_Even_ir) := known_ir (E := envIrA) (n := 3000) rfl rfl bits_Even_c bits_Even_p
/-- atlas/bits.Get -/
def bits_Get_ir : IR :=
  (.lt (.cv .u64 (.v 1)) (.lt (.bin .shr (.v 0) (.v 3)) (.call 116 [(false, [(.v 2)])] [(false, 1)]
  (.lt (.bin .and (.v 4) (.v 5)) (.ret [(false, [(.v 6)])])))))
theorem bits_Get_c : compile envIrA 3000 85 = .ok bits_Get_ir := by kernel_rfl
theorem bits_Get_p : paramShape Tryz.prog 85 = some [(false, 1), (false, 1), (false, 1)] := by kernel_rfl
theorem bits_Get_k : Known gAll 85 (.ir [(false, 1), (false, 1), (false, 1)] bits_Get_ir) := known_ir (E := envIrA) (n := 3000) rfl rfl bits_Get_c bits_Get_p
/-- atlas/bits.Set -/
def bits_Set_ir : IR :=
  (.call 116 [(false, [(.v 2)])] [(false, 1)]
  (.lt (.cv .u64 (.v 1)) (.lt (.bin .shl (.v 4) (.v 5)) (.lt (.bin .andNot (.v 0) (.v 6)) (.lt (.cv .u64 (.v 1)) (.lt (.bin .shl (.v 3) (.v 8)) (.lt (.bin .and (.v 9) (.v 6)) (.lt (.bin .or (.v 7) (.v 10)) (.ret [(false, [(.v 11)])])))))))))
theorem bits_Set_c : compile envIrA 3000 115 = .ok bits_Set_ir := by kernel_rfl
theorem bits_Set_p : paramShape Tryz.prog 115 = some [(false, 1), (false, 1), (false, 1), (false, 1)] := by kernel_rfl
theorem bits_Set_k : Known gAll 115 (.ir [(false, 1), (false, 1), (false, 1), (false, 1)] bits_Set_ir) := known_ir (E := envIrA) (n := 3000) rfl rfl bits_Set_c bits_Set_p
/-- atlas/va.Is -/
def va_Is_ir : IR :=
  (.call 140 [(false, [(.v 0)]), (false, [(.c (.i .i64 39))])] [(false, 1)]
  (.lt (.bin .eql (.v 1) (.v 0)) (.ret [(false, [(.v 2)])])))
theorem va_Is_c : compile envIrA 3000 122 = .ok va_Is_ir := by kernel_rfl
theorem va_Is_p : paramShape Tryz.prog 122 = some [(false, 1)] := by kernel_rfl
theorem va_Is_k : Known gAll 122 (.ir [(false, 1)] va_Is_ir) := known_ir (E := envIrA) (n := 3000) rfl rfl va_Is_c va_Is_p
/-- atlas/va.Offset -/
def va_Offset_ir : IR :=
  (.chk (.rng (.v 1) 3) (.lt (.bin .sub (selE (.v 1) 0 [(.c (.i .u64 4096)), (.c (.i .u64 2097152)), (.c (.i .u64 1073741824))]) (.c (.i .u64 1))) (.lt (.bin .and (.v 0) (.v 2)) (.ret [(false, [(.v 3)])]))))
theorem va_Offset_c : compile envIrA 3000 123 = .ok va_Offset_ir := by kernel_rfl
theorem va_Offset_p : paramShape Tryz.prog 123 = some [(false, 1), (false, 1)] := by kernel_rfl
theorem va_Offset_k : Known gAll 123 (.ir [(false, 1), (false, 1)] va_Offset_ir) := known_ir (E := envIrA) (n := 3000) rfl rfl va_Offset_c va_Offset_p
/-- atlas/atlasref05.Offset -/
def atlasref05_Offset_ir : IR :=
  (.call 43 [(false, [(.v 1)])] [(false, 1)]
  (.lt (.bin .rem (.v 0) (.v 2)) (.ret [(false, [(.v 3)])])))
theorem atlasref05_Offset_c : compile envIrA 3000 118 = .ok atlasref05_Offset_ir := by kernel_rfl
theorem atlasref05_Offset_p : paramShape Tryz.prog 118 = some [(false, 1), (false, 1)] := by kernel_rfl
theorem atlasref05_Offset_k : Known gAll 118 (.ir [(false, 1), (false, 1)] atlasref05_Offset_ir) := known_ir (E := envIrA) (n := 3000) rfl rfl atlasref05_Offset_c atlasref05_Offset_p
/-- atlas/va.Size -/
def va_Size_ir : IR :=
  (.chk (.rng (.v 0) 3) (.ret [(false, [(selE (.v 0) 0 [(.c (.i .u64 4096)), (.c (.i .u64 2097152)), (.c (.i .u64 1073741824))])])]))
theorem va_Size_c : compile envIrA 3000 40 = .ok va_Size_ir := by kernel_rfl
theorem va_Size_p : paramShape Tryz.prog 40 = some [(false, 1)] := by kernel_rfl
theorem va_Size_k : Known gAll 40 (.ir [(false, 1)] va_Size_ir) := known_ir (E := envIrA) (n := 3000) rfl rfl va_Size_c va_Size_p
/-- atlas/va.Index -/
def va_Index_ir : IR :=
  (.lt (.bin .mul (.c (.i .i64 9)) (.v 1)) (.lt (.bin .add (.c (.i .i64 12)) (.v 2)) (.call 85 [(false, [(.v 0)]), (false, [(.v 3)]), (false, [(.c (.i .i64 9))])] [(false, 1)]
  (.lt (.cv .i64 (.v 4)) (.ret [(false, [(.v 5)])])))))
theorem va_Index_c : compile envIrA 3000 103 = .ok va_Index_ir := by kernel_rfl
theorem va_Index_p : paramShape Tryz.prog 103 = some [(false, 1), (false, 1)] := by kernel_rfl
theorem va_Index_k : Known gAll 103 (.ir [(false, 1), (false, 1)] va_Index_ir) := known_ir (E := envIrA) (n := 3000) rfl rfl va_Index_c va_Index_p
/-- atlas/bits.mask -/
def bits_mask_ir : IR :=
  (.lt (.bin .geq (.v 0) (.c (.i .i64 64))) (.ite (.v 1)
  (.ret [(false, [(.c (.i .u64 18446744073709551615))])])
  (.lt (.cv .u64 (.v 0)) (.lt (.bin .shl (.c (.i .u64 1)) (.v 2)) (.lt (.bin .sub (.v 3) (.c (.i .u64 1))) (.ret [(false, [(.v 4)])]))))))
theorem bits_mask_c : compile envIrA 3000 116 = .ok bits_mask_ir := by kernel_rfl
theorem bits_mask_p : paramShape Tryz.prog 116 = some [(false, 1)] := by kernel_rfl
theorem bits_mask_k : Known gAll 116 (.ir [(false, 1)] bits_mask_ir) := known_ir (E := envIrA) (n := 3000) rfl rfl bits_mask_c bits_mask_p
/-- atlas/bits.Bool -/
def bits_Bool_ir : IR :=
  (.ite (.v 0)
  (.ret [(false, [(.c (.i .u64 1))])])
  (.ret [(false, [(.c (.i .u64 0))])]))
theorem bits_Bool_c : compile envIrA 3000 56 = .ok bits_Bool_ir := by kernel_rfl
theorem bits_Bool_p : paramShape Tryz.prog 56 = some [(false, 1)] := by kernel_rfl
theorem bits_Bool_k : Known gAll 56 (.ir [(false, 1)] bits_Bool_ir) := known_ir (E := envIrA) (n := 3000) rfl rfl bits_Bool_c bits_Bool_p
/-- atlas/bits.Sign -/
def bits_Sign_ir : IR :=
  (.lt (.bin .sub (.c (.i .i64 64)) (.v 1)) (.lt (.cv .u64 (.v 2)) (.lt (.bin .shl (.v 0) (.v 3)) (.lt (.cv .i64 (.v 4)) (.lt (.bin .shr (.v 5) (.v 3)) (.lt (.cv .u64 (.v 6)) (.ret [(false, [(.v 7)])])))))))
theorem bits_Sign_c : compile envIrA 3000 140 = .ok bits_Sign_ir := by kernel_rfl
theorem bits_Sign_p : paramShape Tryz.prog 140 = some [(false, 1), (false, 1)] := by kernel_rfl
theorem bits_Sign_k : Known gAll 140 (.ir [(false, 1), (false, 1)] bits_Sign_ir) := known_ir (E := envIrA) (n := 3000) rfl rfl bits_Sign_c bits_Sign_p
/-- atlas/va.Fits -/
def va_Fits_ir : IR :=
  (.call 122 [(false, [(.v 0)])] [(false, 1)]
  (.ite (.v 2)
  (.call 123 [(false, [(.v 0)]), (false, [(.v 1)])] [(false, 1)]
  (.lt (.bin .eql (.v 3) (.c (.i .u64 0))) (.ret [(false, [(.v 4)])])))
  (.ret [(false, [(.c (.b false))])])))
theorem va_Fits_c : compile envIrA 3000 102 = .ok va_Fits_ir := by kernel_rfl
theorem va_Fits_p : paramShape Tryz.prog 102 = some [(false, 1), (false, 1)] := by kernel_rfl
theorem va_Fits_k : Known gAll 102 (.ir [(false, 1), (false, 1)] va_Fits_ir) := known_ir (E := envIrA) (n := 3000) rfl rfl va_Fits_c va_Fits_p
def TIrA : Tbl :=
  (117, .ir [(false, 1)] atlasref05_Is_ir) ::
  (43, .ir [(false, 1)] atlasref05_Size_ir) ::
  (87, .ir [(false, 1), (false, 1)] atlasref05_Fits_ir) ::
  (54, .ir [(false, 1), (false, 1)] atlasref05_Index_ir) ::
  (68, .ir [(false, 1), (false, 1)] bits_Even_ir) ::
  (85, .ir [(false, 1), (false, 1), (false, 1)] bits_Get_ir) ::
  (115, .ir [(false, 1), (false, 1), (false, 1), (false, 1)] bits_Set_ir) ::
  (122, .ir [(false, 1)] va_Is_ir) ::
  (123, .ir [(false, 1), (false, 1)] va_Offset_ir) ::
  (118, .ir [(false, 1), (false, 1)] atlasref05_Offset_ir) ::
  (40, .ir [(false, 1)] va_Size_ir) ::
  (103, .ir [(false, 1), (false, 1)] va_Index_ir) ::
  (116, .ir [(false, 1)] bits_mask_ir) ::
  (56, .ir [(false, 1)] bits_Bool_ir) ::
  (140, .ir [(false, 1), (false, 1)] bits_Sign_ir) ::
  (102, .ir [(false, 1), (false, 1)] va_Fits_ir) ::
  []
theorem TIrA_ok : ∀ x ∈ TIrA, Known gAll x.1 x.2 :=
  kcons atlasref05_Is_k <|
  kcons atlasref05_Size_k <|
  kcons atlasref05_Fits_k <|
  kcons atlasref05_Index_k <|
  kcons bits_Even_k <|
  kcons bits_Get_k <|
  kcons bits_Set_k <|
  kcons va_Is_k <|
  kcons va_Offset_k <|
  kcons atlasref05_Offset_k <|
  kcons va_Size_k <|
  kcons va_Index_k <|
  kcons bits_mask_k <|
  kcons bits_Bool_k <|
  kcons bits_Sign_k <|
  kcons va_Fits_k <|
  fun _ h => nomatch h
end Go.Proofs.YtlihbielphcgbaaGreatDoor.Sx
