/-
  Layers 5, 12: addresses and entries: the contracts of the functions and of their references.
-/
import Derived.Test.YtngpjdieelcbmaaDoorBits
import Derived.Test.YtngpjdieelcbmaaDoorIrS
namespace Go.Proofs.YtngpjdieelcbmaaDoor.Sx
open Go
set_option linter.unusedVariables false
set_option linter.unusedSimpArgs false
set_option maxRecDepth 100000


/-- the functions of the layers up to 13 -/
def TS : Tbl := TIrS ++ TIrA
theorem TS_ok : ∀ x ∈ TS, Known gAll x.1 x.2 := kappend TIrS_ok TIrA_ok
/-- a level -/
def Lv (l : Int) : Prop := l = 0 ∨ l = 1 ∨ l = 2
/-- a page's bytes; a page's pages of the least level -/
def szN (l : Int) : Nat := if l = 0 then 4096 else if l = 1 then 2097152 else 1073741824
def pgN (l : Int) : Nat := if l = 0 then 1 else if l = 1 then 512 else 262144
theorem szN_eq {l : Int} : szN l = 4096 * pgN l := by unfold szN pgN; split <;> (try split) <;> rfl
theorem pgN_pos {l : Int} : 0 < pgN l := by unfold pgN; split <;> (try split) <;> omega
theorem pgN_le {l : Int} : pgN l ≤ 262144 := by unfold pgN; split <;> (try split) <;> omega

theorem vaSize_con {l : Int} (h : Lv l) : Cn gAll 54 [i l] [u (szN l)] := by
  rcases h with rfl | rfl | rfl <;> exact con_of_run TS_ok rfl 50 rfl rfl
theorem refSize_con {l : Int} (h : Lv l) : Cn gAll 83 [i l] [u (szN l)] := by
  rcases h with rfl | rfl | rfl <;> exact con_of_run TS_ok rfl 50 rfl rfl
theorem pages_con {l : Int} (h : Lv l) : Cn gAll 60 [i l] [u (pgN l)] := by
  rcases h with rfl | rfl | rfl <;> exact con_of_run TS_ok rfl 50 rfl rfl
theorem refPages_con {l : Int} (h : Lv l) : Cn gAll 68 [i l] [u (pgN l)] := by
  rcases h with rfl | rfl | rfl <;> exact con_of_run TS_ok rfl 50 rfl rfl

theorem number_con {a : Nat} (ha : a < 18446744073709551616) : Cn gAll 40 [u a] [u (a / 4096 % 134217728)] := by
  refine con rfl rfl va_Number_c va_Number_p rfl ?_
  refine wp_call rfl (bitsGet_con (lo := 12) (w := 27) ha (by omega) (by omega)) rfl ?_
  simp only [lv_cons, lv_nil, app_cons, app_nil]
  exact wp_return rfl rfl

theorem offset_con {a : Nat} {l : Int} (ha : a < 18446744073709551616) (h : Lv l) : Cn gAll 66 [u a, i l] [u (a % szN l)] := by
  refine con rfl rfl va_Offset_c va_Offset_p rfl ?_
  rcases h with rfl | rfl | rfl
  · refine wp_chk rfl ?_
    refine wp_lt (d := U 4095) rfl ?_
    simp only [lv_cons, lv_nil, app_cons, app_nil]
    refine wp_lt (u_and rfl rfl ha (by omega)) ?_
    simp only [lv_cons, lv_nil, app_cons, app_nil]
    exact wp_return rfl (by rw [show (4095 : Nat) = 2 ^ 12 - 1 from rfl, and_mask]; rfl)
  · refine wp_chk rfl ?_
    refine wp_lt (d := U 2097151) rfl ?_
    simp only [lv_cons, lv_nil, app_cons, app_nil]
    refine wp_lt (u_and rfl rfl ha (by omega)) ?_
    simp only [lv_cons, lv_nil, app_cons, app_nil]
    exact wp_return rfl (by rw [show (2097151 : Nat) = 2 ^ 21 - 1 from rfl, and_mask]; rfl)
  · refine wp_chk rfl ?_
    refine wp_lt (d := U 1073741823) rfl ?_
    simp only [lv_cons, lv_nil, app_cons, app_nil]
    refine wp_lt (u_and rfl rfl ha (by omega)) ?_
    simp only [lv_cons, lv_nil, app_cons, app_nil]
    exact wp_return rfl (by rw [show (1073741823 : Nat) = 2 ^ 30 - 1 from rfl, and_mask]; rfl)

theorem base_con {a : Nat} {l : Int} (ha : a < 18446744073709551616) (h : Lv l) : Cn gAll 41 [u a, i l] [u (a - a % szN l)] := by
  refine con rfl rfl va_Base_c va_Base_p rfl ?_
  refine wp_call rfl (offset_con ha h) rfl ?_
  simp only [lv_cons, lv_nil, app_cons, app_nil]
  refine wp_lt (u_sub rfl rfl (Nat.mod_le ..) ha) ?_
  simp only [lv_cons, lv_nil, app_cons, app_nil]
  exact wp_return rfl rfl

theorem fits_con {a w : Nat} (ha : a < 18446744073709551616) (hw : w < 64) : Cn gAll 61 [u a, i w] [bb (decide (a < 2 ^ w))] := by
  refine con rfl rfl entry_fits_c entry_fits_p rfl ?_
  have hp0 : 0 < 2 ^ w := Nat.pow_pos (by omega)
  refine wp_call rfl (bitsGet_con (lo := 0) ha (by omega) (by omega)) rfl ?_
  simp only [lv_cons, lv_nil, app_cons, app_nil]
  refine wp_lt rfl ?_
  simp only [lv_cons, lv_nil, app_cons, app_nil]
  refine wp_return rfl (bb_iff ?_)
  rw [getN, Nat.pow_zero, Nat.div_one]
  simp only [beq_iff_eq, decide_eq_true_eq]
  constructor
  · intro h
    have := Nat.mod_lt a hp0
    omega
  · intro h
    rw [Nat.mod_eq_of_lt h]


/-- an entry of the buffer -/
structure En where
  v : Bool
  asid : Nat
  g : Bool
  lv : Int
  vpn : Nat
  ppn : Nat
  p1 : Bool
  p2 : Bool
  p3 : Bool
  p4 : Bool
  d : Bool
def En.ds (e : En) : List D := [.b e.v, U e.asid, .b e.g, I e.lv, U e.vpn, U e.ppn, .b e.p1, .b e.p2, .b e.p3, .b e.p4, .b e.d]
abbrev En.dv (e : En) : DV := (true, e.ds)
structure En.Ok (e : En) : Prop where
  asid : e.asid < 18446744073709551616
  vpn : e.vpn < 18446744073709551616
  ppn : e.ppn < 18446744073709551616

/-- what may be -/
structure En.May (e : En) : Prop where
  lv : Lv e.lv
  vpn : e.vpn < 134217728
  ppn : e.ppn < 17592186044416
  asid : e.asid < 65536
  ve : e.vpn % pgN e.lv = 0
  pe : e.ppn % pgN e.lv = 0
def En.zero : En := ⟨false, 0, false, 0, 0, 0, false, false, false, false, false⟩
instance (l : Int) : Decidable (Lv l) := inferInstanceAs (Decidable (_ ∨ _))
def En.mayB (e : En) : Bool := decide (Lv e.lv) && decide (e.vpn < 134217728) && decide (e.ppn < 17592186044416) && decide (e.asid < 65536) && decide (e.vpn % pgN e.lv = 0) && decide (e.ppn % pgN e.lv = 0)
def En.zeroB (e : En) : Bool := !e.v && e.asid == 0 && !e.g && e.lv == 0 && e.vpn == 0 && e.ppn == 0 && !e.p1 && !e.p2 && !e.p3 && !e.p4 && !e.d
def En.may (e : En) : Bool := if e.v then e.mayB else e.zeroB
theorem En.mayB_iff {e : En} : e.mayB = true ↔ e.May := by
  unfold En.mayB
  simp only [Bool.and_eq_true, decide_eq_true_eq]
  exact ⟨fun ⟨⟨⟨⟨⟨a, b⟩, c⟩, d⟩, e⟩, f⟩ => ⟨a, b, c, d, e, f⟩, fun ⟨a, b, c, d, e, f⟩ => ⟨⟨⟨⟨⟨a, b⟩, c⟩, d⟩, e⟩, f⟩⟩
theorem En.zeroB_eq {e : En} (h : e.zeroB = true) : e = En.zero := by
  obtain ⟨v, asid, g, lv, vpn, ppn, p1, p2, p3, p4, d⟩ := e
  simp [En.zeroB] at h
  simp [En.zero, h]
end Go.Proofs.YtngpjdieelcbmaaDoor.Sx
