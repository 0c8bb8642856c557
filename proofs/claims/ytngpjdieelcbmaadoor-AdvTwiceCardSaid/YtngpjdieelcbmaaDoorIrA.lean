/-
  IRs of functions, printed by a program of mine (wip/tools/mkir.py, ev.run.lean); each is checked by the kernel against the executor.
-/
import Derived.Test.YtngpjdieelcbmaaDoorBf
import Derived.Test.YtngpjdieelcbmaaDoorProg
namespace Go.Proofs.YtngpjdieelcbmaaDoor.Sx
open Go
set_option maxRecDepth 100000
noncomputable def envIrA : Env := { P := Tryd.prog, G := gAll, inl := [], unr := [] }
/-- atlas/atlasref05.Size -/
def atlasref05_Size_ir : IR :=
  (.loop [(.c (.i .u64 4096)), (.c (.i .i64 0))]
  (.lt (.bin .lss (.v 2) (.v 0)) (.ite (.v 3)
  (.lt (.bin .mul (.v 1) (.c (.i .u64 512))) (.lt (.bin .add (.v 2) (.c (.i .i64 1))) (.cont 0 [(.v 4), (.v 5)])))
  (.ret [(false, [(.v 1)])]))))
theorem atlasref05_Size_c : compile envIrA 3000 83 = .ok atlasref05_Size_ir := by kernel_rfl
theorem atlasref05_Size_p : paramShape Tryd.prog 83 = some [(false, 1)] := by kernel_rfl
theorem atlasref05_Size_k : Known gAll 83 (.ir [(false, 1)] atlasref05_Size_ir) := known_ir (E := envIrA) (n := 3000) rfl rfl atlasref05_Size_c atlasref05_Size_p
/-- atlas/va.Number -/
def va_Number_ir : IR :=
  (.call 50 [(false, [(.v 0)]), (false, [(.c (.i .i64 12))]), (false, [(.c (.i .i64 27))])] [(false, 1)]
  (.ret [(false, [(.v 1)])]))
theorem va_Number_c : compile envIrA 3000 40 = .ok va_Number_ir := by kernel_rfl
theorem va_Number_p : paramShape Tryd.prog 40 = some [(false, 1)] := by kernel_rfl
theorem va_Number_k : Known gAll 40 (.ir [(false, 1)] va_Number_ir) := known_ir (E := envIrA) (n := 3000) rfl rfl va_Number_c va_Number_p
/-- atlas/bits.Even -/
def bits_Even_ir : IR :=
  (.lt (.bin .eql (.v 1) (.c (.i .u64 0))) (.ite (.v 2)
  (.lt (.bin .eql (.v 0) (.c (.i .u64 0))) (.ret [(false, [(.v 3)])]))
  (.lt (.bin .rem (.v 0) (.v 1)) (.lt (.bin .eql (.v 3) (.c (.i .u64 0))) (.ret [(false, [(.v 4)])])))))
theorem bits_Even_c : compile envIrA 3000 53 = .ok bits_Even_ir := by kernel_rfl
theorem bits_Even_p : paramShape Tryd.prog 53 = some [(false, 1), (false, 1)] := by kernel_rfl
theorem bits_Even_k : Known gAll 53 (.ir [(false, 1), (false, 1)] bits_Even_ir) := known_ir (E := envIrA) (n := 3000) rfl rfl bits_Even_c bits_Even_p
/-- atlas/bits.Get -/
def bits_Get_ir : IR :=
  (.lt (.cv .u64 (.v 1)) (.lt (.bin .shr (.v 0) (.v 3)) (.call 70 [(false, [(.v 2)])] [(false, 1)]
  (.lt (.bin .and (.v 4) (.v 5)) (.ret [(false, [(.v 6)])])))))
theorem bits_Get_c : compile envIrA 3000 50 = .ok bits_Get_ir := by kernel_rfl
theorem bits_Get_p : paramShape Tryd.prog 50 = some [(false, 1), (false, 1), (false, 1)] := by kernel_rfl
theorem bits_Get_k : Known gAll 50 (.ir [(false, 1), (false, 1), (false, 1)] bits_Get_ir) := known_ir (E := envIrA) (n := 3000) rfl rfl bits_Get_c bits_Get_p
/-- atlas/bits.Set -/
def bits_Set_ir : IR :=
  (.call 70 [(false, [(.v 2)])] [(false, 1)]
  (.lt (.cv .u64 (.v 1)) (.lt (.bin .shl (.v 4) (.v 5)) (.lt (.bin .andNot (.v 0) (.v 6)) (.lt (.cv .u64 (.v 1)) (.lt (.bin .shl (.v 3) (.v 8)) (.lt (.bin .and (.v 9) (.v 6)) (.lt (.bin .or (.v 7) (.v 10)) (.ret [(false, [(.v 11)])])))))))))
theorem bits_Set_c : compile envIrA 3000 58 = .ok bits_Set_ir := by kernel_rfl
theorem bits_Set_p : paramShape Tryd.prog 58 = some [(false, 1), (false, 1), (false, 1), (false, 1)] := by kernel_rfl
theorem bits_Set_k : Known gAll 58 (.ir [(false, 1), (false, 1), (false, 1), (false, 1)] bits_Set_ir) := known_ir (E := envIrA) (n := 3000) rfl rfl bits_Set_c bits_Set_p
/-- atlas/va.Is -/
def va_Is_ir : IR :=
  (.call 46 [(false, [(.v 0)]), (false, [(.c (.i .i64 39))])] [(false, 1)]
  (.lt (.bin .eql (.v 1) (.v 0)) (.ret [(false, [(.v 2)])])))
theorem va_Is_c : compile envIrA 3000 25 = .ok va_Is_ir := by kernel_rfl
theorem va_Is_p : paramShape Tryd.prog 25 = some [(false, 1)] := by kernel_rfl
theorem va_Is_k : Known gAll 25 (.ir [(false, 1)] va_Is_ir) := known_ir (E := envIrA) (n := 3000) rfl rfl va_Is_c va_Is_p
/-- atlas/va.Offset -/
def va_Offset_ir : IR :=
  (.chk (.rng (.v 1) 3) (.lt (.bin .sub (selE (.v 1) 0 [(.c (.i .u64 4096)), (.c (.i .u64 2097152)), (.c (.i .u64 1073741824))]) (.c (.i .u64 1))) (.lt (.bin .and (.v 0) (.v 2)) (.ret [(false, [(.v 3)])]))))
theorem va_Offset_c : compile envIrA 3000 66 = .ok va_Offset_ir := by kernel_rfl
theorem va_Offset_p : paramShape Tryd.prog 66 = some [(false, 1), (false, 1)] := by kernel_rfl
theorem va_Offset_k : Known gAll 66 (.ir [(false, 1), (false, 1)] va_Offset_ir) := known_ir (E := envIrA) (n := 3000) rfl rfl va_Offset_c va_Offset_p
/-- atlas/va.Size -/
def va_Size_ir : IR :=
  (.chk (.rng (.v 0) 3) (.ret [(false, [(selE (.v 0) 0 [(.c (.i .u64 4096)), (.c (.i .u64 2097152)), (.c (.i .u64 1073741824))])])]))
theorem va_Size_c : compile envIrA 3000 54 = .ok va_Size_ir := by kernel_rfl
theorem va_Size_p : paramShape Tryd.prog 54 = some [(false, 1)] := by kernel_rfl
theorem va_Size_k : Known gAll 54 (.ir [(false, 1)] va_Size_ir) := known_ir (E := envIrA) (n := 3000) rfl rfl va_Size_c va_Size_p
/-- atlas/va.Index -/
def va_Index_ir : IR :=
  (.lt (.bin .mul (.c (.i .i64 9)) (.v 1)) (.lt (.bin .add (.c (.i .i64 12)) (.v 2)) (.call 50 [(false, [(.v 0)]), (false, [(.v 3)]), (false, [(.c (.i .i64 9))])] [(false, 1)]
  (.lt (.cv .i64 (.v 4)) (.ret [(false, [(.v 5)])])))))
theorem va_Index_c : compile envIrA 3000 48 = .ok va_Index_ir := by kernel_rfl
theorem va_Index_p : paramShape Tryd.prog 48 = some [(false, 1), (false, 1)] := by kernel_rfl
theorem va_Index_k : Known gAll 48 (.ir [(false, 1), (false, 1)] va_Index_ir) := known_ir (E := envIrA) (n := 3000) rfl rfl va_Index_c va_Index_p
/-- atlas/va.Base -/
def va_Base_ir : IR :=
  (.call 66 [(false, [(.v 0)]), (false, [(.v 1)])] [(false, 1)]
  (.lt (.bin .sub (.v 0) (.v 2)) (.ret [(false, [(.v 3)])])))
theorem va_Base_c : compile envIrA 3000 41 = .ok va_Base_ir := by kernel_rfl
theorem va_Base_p : paramShape Tryd.prog 41 = some [(false, 1), (false, 1)] := by kernel_rfl
theorem va_Base_k : Known gAll 41 (.ir [(false, 1), (false, 1)] va_Base_ir) := known_ir (E := envIrA) (n := 3000) rfl rfl va_Base_c va_Base_p
/-- atlas/bits.mask -/
def bits_mask_ir : IR :=
  (.lt (.bin .geq (.v 0) (.c (.i .i64 64))) (.ite (.v 1)
  (.ret [(false, [(.c (.i .u64 18446744073709551615))])])
  (.lt (.cv .u64 (.v 0)) (.lt (.bin .shl (.c (.i .u64 1)) (.v 2)) (.lt (.bin .sub (.v 3) (.c (.i .u64 1))) (.ret [(false, [(.v 4)])]))))))
theorem bits_mask_c : compile envIrA 3000 70 = .ok bits_mask_ir := by kernel_rfl
theorem bits_mask_p : paramShape Tryd.prog 70 = some [(false, 1)] := by kernel_rfl
theorem bits_mask_k : Known gAll 70 (.ir [(false, 1)] bits_mask_ir) := known_ir (E := envIrA) (n := 3000) rfl rfl bits_mask_c bits_mask_p
/-- atlas/bits.Bool -/
def bits_Bool_ir : IR :=
  (.ite (.v 0)
  (.ret [(false, [(.c (.i .u64 1))])])
  (.ret [(false, [(.c (.i .u64 0))])]))
theorem bits_Bool_c : compile envIrA 3000 75 = .ok bits_Bool_ir := by kernel_rfl
theorem bits_Bool_p : paramShape Tryd.prog 75 = some [(false, 1)] := by kernel_rfl
theorem bits_Bool_k : Known gAll 75 (.ir [(false, 1)] bits_Bool_ir) := known_ir (E := envIrA) (n := 3000) rfl rfl bits_Bool_c bits_Bool_p
/-- atlas/bits.Sign -/
def bits_Sign_ir : IR :=
  (.lt (.bin .sub (.c (.i .i64 64)) (.v 1)) (.lt (.cv .u64 (.v 2)) (.lt (.bin .shl (.v 0) (.v 3)) (.lt (.cv .i64 (.v 4)) (.lt (.bin .shr (.v 5) (.v 3)) (.lt (.cv .u64 (.v 6)) (.ret [(false, [(.v 7)])])))))))
theorem bits_Sign_c : compile envIrA 3000 46 = .ok bits_Sign_ir := by kernel_rfl
theorem bits_Sign_p : paramShape Tryd.prog 46 = some [(false, 1), (false, 1)] := by kernel_rfl
theorem bits_Sign_k : Known gAll 46 (.ir [(false, 1), (false, 1)] bits_Sign_ir) := known_ir (E := envIrA) (n := 3000) rfl rfl bits_Sign_c bits_Sign_p
def TIrA : Tbl :=
  (83, .ir [(false, 1)] atlasref05_Size_ir) ::
  (40, .ir [(false, 1)] va_Number_ir) ::
  (53, .ir [(false, 1), (false, 1)] bits_Even_ir) ::
  (50, .ir [(false, 1), (false, 1), (false, 1)] bits_Get_ir) ::
  (58, .ir [(false, 1), (false, 1), (false, 1), (false, 1)] bits_Set_ir) ::
  (25, .ir [(false, 1)] va_Is_ir) ::
  (66, .ir [(false, 1), (false, 1)] va_Offset_ir) ::
  (54, .ir [(false, 1)] va_Size_ir) ::
  (48, .ir [(false, 1), (false, 1)] va_Index_ir) ::
  (41, .ir [(false, 1), (false, 1)] va_Base_ir) ::
  (70, .ir [(false, 1)] bits_mask_ir) ::
  (75, .ir [(false, 1)] bits_Bool_ir) ::
  (46, .ir [(false, 1), (false, 1)] bits_Sign_ir) ::
  []
theorem TIrA_ok : ∀ x ∈ TIrA, Known gAll x.1 x.2 :=
  kcons atlasref05_Size_k <|
  kcons va_Number_k <|
  kcons bits_Even_k <|
  kcons bits_Get_k <|
  kcons bits_Set_k <|
  kcons va_Is_k <|
  kcons va_Offset_k <|
  kcons va_Size_k <|
  kcons va_Index_k <|
  kcons va_Base_k <|
  kcons bits_mask_k <|
  kcons bits_Bool_k <|
  kcons bits_Sign_k <|
  fun _ h => nomatch h
end Go.Proofs.YtngpjdieelcbmaaDoor.Sx
