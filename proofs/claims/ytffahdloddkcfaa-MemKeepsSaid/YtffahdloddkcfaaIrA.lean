/-
  IRs of functions, printed by a program of mine (wip/tools/mkir.py, ev.run.lean); each is checked by the kernel against the executor.
-/
import Derived.Test.YtffahdloddkcfaaBf
import Derived.Test.YtffahdloddkcfaaProg
namespace Go.Proofs.Ytffahdloddkcfaa.Sx
open Go
set_option maxRecDepth 100000
noncomputable def envIrA : Env := { P := Try.prog, G := gAll, inl := [], unr := [] }
/-- atlas/bits.Even -/
def bits_Even_ir : IR :=
  (.lt (.bin .eql (.v 1) (.c (.i .u64 0))) (.ite (.v 2)
  (.lt (.bin .eql (.v 0) (.c (.i .u64 0))) (.ret [(false, [(.v 3)])]))
  (.lt (.bin .rem (.v 0) (.v 1)) (.lt (.bin .eql (.v 3) (.c (.i .u64 0))) (.ret [(false, [(.v 4)])])))))
theorem bits_Even_c : compile envIrA 3000 26 = .ok bits_Even_ir := by kernel_rfl
theorem bits_Even_p : paramShape Try.prog 26 = some [(false, 1), (false, 1)] := by kernel_rfl
theorem bits_Even_k : Known gAll 26 (.ir [(false, 1), (false, 1)] bits_Even_ir) := known_ir (E := envIrA) (n := 3000) rfl rfl bits_Even_c bits_Even_p
/-- atlas/bits.Get -/
def bits_Get_ir : IR :=
  (.lt (.cv .u64 (.v 1)) (.lt (.bin .shr (.v 0) (.v 3)) (.call 39 [(false, [(.v 2)])] [(false, 1)]
  (.lt (.bin .and (.v 4) (.v 5)) (.ret [(false, [(.v 6)])])))))
theorem bits_Get_c : compile envIrA 3000 28 = .ok bits_Get_ir := by kernel_rfl
theorem bits_Get_p : paramShape Try.prog 28 = some [(false, 1), (false, 1), (false, 1)] := by kernel_rfl
theorem bits_Get_k : Known gAll 28 (.ir [(false, 1), (false, 1), (false, 1)] bits_Get_ir) := known_ir (E := envIrA) (n := 3000) rfl rfl bits_Get_c bits_Get_p
/-- atlas/bits.Set -/
def bits_Set_ir : IR :=
  (.call 39 [(false, [(.v 2)])] [(false, 1)]
  (.lt (.cv .u64 (.v 1)) (.lt (.bin .shl (.v 4) (.v 5)) (.lt (.bin .andNot (.v 0) (.v 6)) (.lt (.cv .u64 (.v 1)) (.lt (.bin .shl (.v 3) (.v 8)) (.lt (.bin .and (.v 9) (.v 6)) (.lt (.bin .or (.v 7) (.v 10)) (.ret [(false, [(.v 11)])])))))))))
theorem bits_Set_c : compile envIrA 3000 33 = .ok bits_Set_ir := by kernel_rfl
theorem bits_Set_p : paramShape Try.prog 33 = some [(false, 1), (false, 1), (false, 1), (false, 1)] := by kernel_rfl
theorem bits_Set_k : Known gAll 33 (.ir [(false, 1), (false, 1), (false, 1), (false, 1)] bits_Set_ir) := known_ir (E := envIrA) (n := 3000) rfl rfl bits_Set_c bits_Set_p
/-- atlas/bits.mask -/
def bits_mask_ir : IR :=
  (.lt (.bin .geq (.v 0) (.c (.i .i64 64))) (.ite (.v 1)
  (.ret [(false, [(.c (.i .u64 18446744073709551615))])])
  (.lt (.cv .u64 (.v 0)) (.lt (.bin .shl (.c (.i .u64 1)) (.v 2)) (.lt (.bin .sub (.v 3) (.c (.i .u64 1))) (.ret [(false, [(.v 4)])]))))))
theorem bits_mask_c : compile envIrA 3000 39 = .ok bits_mask_ir := by kernel_rfl
theorem bits_mask_p : paramShape Try.prog 39 = some [(false, 1)] := by kernel_rfl
theorem bits_mask_k : Known gAll 39 (.ir [(false, 1)] bits_mask_ir) := known_ir (E := envIrA) (n := 3000) rfl rfl bits_mask_c bits_mask_p
def TIrA : Tbl :=
  (26, .ir [(false, 1), (false, 1)] bits_Even_ir) ::
  (28, .ir [(false, 1), (false, 1), (false, 1)] bits_Get_ir) ::
  (33, .ir [(false, 1), (false, 1), (false, 1), (false, 1)] bits_Set_ir) ::
  (39, .ir [(false, 1)] bits_mask_ir) ::
  []
theorem TIrA_ok : ∀ x ∈ TIrA, Known gAll x.1 x.2 :=
  kcons bits_Even_k <|
  kcons bits_Get_k <|
  kcons bits_Set_k <|
  kcons bits_mask_k <|
  fun _ h => nomatch h
end Go.Proofs.Ytffahdloddkcfaa.Sx
