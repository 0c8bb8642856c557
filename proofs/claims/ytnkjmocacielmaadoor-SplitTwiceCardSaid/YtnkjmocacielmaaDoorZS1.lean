/-
 Layers 5, 12: addresses and entries: the contracts of the functions and of their references.
 Layer 12: what may be, what matches: entries' functions and their references.
 Layer 13: sets: the contracts of the functions and of their references.
 Layer 13: find, use, drop: the contracts of the functions and of their references.
 Layer 13: put: the contract of the function and of its reference.
 Layer 13: what putting leaves of a set.
-/
import Derived.Test.YtnkjmocacielmaaDoorZBits
import Derived.Test.YtnkjmocacielmaaDoorZIrS
namespace Go.Proofs.YtnkjmocacielmaaDoor.Sx
open Go
set_option linter.unusedVariables false
set_option linter.unusedSimpArgs false
set_option maxRecDepth 100000
def TS : Tbl := TIrS ++ TIrA
theorem TS_ok : ∀ x ∈ TS, Known gAll x.1 x.2 := kappend TIrS_ok TIrA_ok
def Lv (l : Int) : Prop := l = 0 ∨ l = 1 ∨ l = 2
def szN (l : Int) : Nat := if l = 0 then 4096 else if l = 1 then 2097152 else 1073741824
def pgN (l : Int) : Nat := if l = 0 then 1 else if l = 1 then 512 else 262144
theorem szN_eq {l : Int} : szN l = 4096 * pgN l := by unfold szN pgN; split <;> (try split) <;> rfl
theorem pgN_pos {l : Int} : 0 < pgN l := by unfold pgN; split <;> (try split) <;> omega
theorem pgN_le {l : Int} : pgN l ≤ 262144 := by unfold pgN; split <;> (try split) <;> omega
theorem vaSize_con {l : Int} (h : Lv l) : Cn gAll 37 [i l] [u (szN l)] := by
 rcases h with rfl | rfl | rfl <;> exact con_of_run TS_ok rfl 50 rfl rfl
theorem refSize_con {l : Int} (h : Lv l) : Cn gAll 44 [i l] [u (szN l)] := by
 rcases h with rfl | rfl | rfl <;> exact con_of_run TS_ok rfl 50 rfl rfl
theorem refPages_con {l : Int} (h : Lv l) : Cn gAll 38 [i l] [u (pgN l)] := by
 rcases h with rfl | rfl | rfl <;> exact con_of_run TS_ok rfl 50 rfl rfl
theorem refNumber_con {a : Nat} (ha : a < 18446744073709551616) : Cn gAll 47 [u a] [u (a / 4096 % 134217728)] := by
 refine con rfl rfl atlasref05_Number_c atlasref05_Number_p rfl ?_
 refine wp_lt (u_quo (b := 4096) rfl rfl (by omega) ha) ?_
 simp only [lv_cons, lv_nil, app_cons, app_nil]
 refine wp_lt (u_rem (b := 134217728) rfl rfl (by omega)) ?_
 simp only [lv_cons, lv_nil, app_cons, app_nil]
 exact wp_return rfl rfl
theorem offset_con {a : Nat} {l : Int} (ha : a < 18446744073709551616) (h : Lv l) : Cn gAll 68 [u a, i l] [u (a % szN l)] := by
 refine con rfl rfl va_Offset_c va_Offset_p rfl ?_
 rcases h with rfl | rfl | rfl
 ·refine wp_chk rfl ?_
  refine wp_lt (d := U 4095) rfl ?_
  simp only [lv_cons, lv_nil, app_cons, app_nil]
  refine wp_lt (u_and rfl rfl ha (by omega)) ?_
  simp only [lv_cons, lv_nil, app_cons, app_nil]
  exact wp_return rfl (by rw [show (4095 : Nat) = 2 ^ 12 - 1 from rfl, and_mask]; rfl)
 ·refine wp_chk rfl ?_
  refine wp_lt (d := U 2097151) rfl ?_
  simp only [lv_cons, lv_nil, app_cons, app_nil]
  refine wp_lt (u_and rfl rfl ha (by omega)) ?_
  simp only [lv_cons, lv_nil, app_cons, app_nil]
  exact wp_return rfl (by rw [show (2097151 : Nat) = 2 ^ 21 - 1 from rfl, and_mask]; rfl)
 ·refine wp_chk rfl ?_
  refine wp_lt (d := U 1073741823) rfl ?_
  simp only [lv_cons, lv_nil, app_cons, app_nil]
  refine wp_lt (u_and rfl rfl ha (by omega)) ?_
  simp only [lv_cons, lv_nil, app_cons, app_nil]
  exact wp_return rfl (by rw [show (1073741823 : Nat) = 2 ^ 30 - 1 from rfl, and_mask]; rfl)
theorem base_con {a : Nat} {l : Int} (ha : a < 18446744073709551616) (h : Lv l) : Cn gAll 36 [u a, i l] [u (a - a % szN l)] := by
 refine con rfl rfl va_Base_c va_Base_p rfl ?_
 refine wp_call rfl (offset_con ha h) rfl ?_
 simp only [lv_cons, lv_nil, app_cons, app_nil]
 refine wp_lt (u_sub rfl rfl (Nat.mod_le ..) ha) ?_
 simp only [lv_cons, lv_nil, app_cons, app_nil]
 exact wp_return rfl rfl
theorem isVa_con {a : Nat} : Cn gAll 9 [u a] [bb (decide (a < 274877906944 ∨ 18446743798831644672 ≤ a))] := by
 refine con rfl rfl atlasref05_Is_c atlasref05_Is_p rfl ?_
 refine wp_lt rfl ?_
 simp only [lv_cons, lv_nil, app_cons, app_nil]
 refine wp_ite rfl (fun h => ?_) (fun h => ?_)
 ·have h := of_decide_eq_true h
  exact wp_return rfl (bb_iff (by simp; omega))
 ·have h := of_decide_eq_false h
  refine wp_lt rfl ?_
  simp only [lv_cons, lv_nil, app_cons, app_nil]
  exact wp_return rfl (bb_iff (by simp; omega))
structure En where
 v : Bool
 asid : Nat
 g : Bool
 lv : Int
 vpn : Nat
 ppn : Nat
 p1 : Bool
 p2 : Bool
 p3 : Bool
 p4 : Bool
 d : Bool
def En.ds (e : En) : List D := [.b e.v, U e.asid, .b e.g, I e.lv, U e.vpn, U e.ppn, .b e.p1, .b e.p2, .b e.p3, .b e.p4, .b e.d]
abbrev En.dv (e : En) : DV := (true, e.ds)
structure En.Ok (e : En) : Prop where
 asid : e.asid < 18446744073709551616
 vpn : e.vpn < 18446744073709551616
 ppn : e.ppn < 18446744073709551616
structure En.May (e : En) : Prop where
 lv : Lv e.lv
 vpn : e.vpn < 134217728
 ppn : e.ppn < 17592186044416
 asid : e.asid < 65536
 ve : e.vpn % pgN e.lv = 0
 pe : e.ppn % pgN e.lv = 0
def En.zero : En := ⟨false, 0, false, 0, 0, 0, false, false, false, false, false⟩
instance (l : Int) : Decidable (Lv l) := inferInstanceAs (Decidable (_ ∨ _))
def En.mayB (e : En) : Bool := decide (Lv e.lv) && decide (e.vpn < 134217728) && decide (e.ppn < 17592186044416) && decide (e.asid < 65536) && decide (e.vpn % pgN e.lv = 0) && decide (e.ppn % pgN e.lv = 0)
def En.zeroB (e : En) : Bool := !e.v && e.asid == 0 && !e.g && e.lv == 0 && e.vpn == 0 && e.ppn == 0 && !e.p1 && !e.p2 && !e.p3 && !e.p4 && !e.d
def En.may (e : En) : Bool := if e.v then e.mayB else e.zeroB
end Go.Proofs.YtnkjmocacielmaaDoor.Sx
namespace Go.Proofs.YtnkjmocacielmaaDoor.Sx
open Go
set_option linter.unusedVariables false
set_option linter.unusedSimpArgs false
set_option maxRecDepth 100000
section
variable {ρ : List D} {x y : Ex}
end
end Go.Proofs.YtnkjmocacielmaaDoor.Sx
namespace Go.Proofs.YtnkjmocacielmaaDoor.Sx
open Go
set_option linter.unusedVariables false
set_option linter.unusedSimpArgs false
set_option maxRecDepth 100000
structure SetD where
 w0 : En
 w1 : En
 w2 : En
 w3 : En
 t : Nat
def SetD.ds (s : SetD) : List D := s.w0.ds ++ (s.w1.ds ++ (s.w2.ds ++ (s.w3.ds ++ [.i .u8 (s.t : Int)])))
abbrev SetD.dv (s : SetD) : DV := (true, s.ds)
structure SetD.Ok (s : SetD) : Prop where
 w0 : s.w0.Ok
 w1 : s.w1.Ok
 w2 : s.w2.Ok
 w3 : s.w3.Ok
def SetD.right (s : SetD) : Bool := decide (s.t < 8) && s.w0.may && s.w1.may && s.w2.may && s.w3.may
end Go.Proofs.YtnkjmocacielmaaDoor.Sx
namespace Go.Proofs.YtnkjmocacielmaaDoor.Sx
open Go
set_option linter.unusedVariables false
set_option linter.unusedSimpArgs false
set_option maxRecDepth 100000
def SetD.put (s : SetD) (k : Nat) (e : En) : SetD :=
 match k with
 | 0 => { s with w0 := e }
 | 1 => { s with w1 := e }
 | 2 => { s with w2 := e }
 | _ => { s with w3 := e }
end Go.Proofs.YtnkjmocacielmaaDoor.Sx
namespace Go.Proofs.YtnkjmocacielmaaDoor.Sx
open Go
set_option linter.unusedVariables false
set_option linter.unusedSimpArgs false
set_option maxRecDepth 100000
end Go.Proofs.YtnkjmocacielmaaDoor.Sx
namespace Go.Proofs.YtnkjmocacielmaaDoor.Sx
open Go
set_option linter.unusedVariables false
set_option linter.unusedSimpArgs false
set_option maxRecDepth 100000
def SetD.at (s : SetD) : Nat → En
 | 0 => s.w0
 | 1 => s.w1
 | 2 => s.w2
 | _ => s.w3
end Go.Proofs.YtnkjmocacielmaaDoor.Sx
