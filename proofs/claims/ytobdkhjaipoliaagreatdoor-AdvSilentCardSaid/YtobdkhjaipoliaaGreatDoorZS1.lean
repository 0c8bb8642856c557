/-
  Layers 5, 12: addresses and entries: the contracts of the functions and of their references.
  Layer 12: what may be, what matches: entries' functions and their references.
  Layer 13: sets: the contracts of the functions and of their references.
  Layer 13: find, use, drop: the contracts of the functions and of their references.
  Layer 13: put: the contract of the function and of its reference.
  Layer 13: what putting leaves of a set.
-/
import Derived.Test.YtobdkhjaipoliaaGreatDoorZBits
import Derived.Test.YtobdkhjaipoliaaGreatDoorZIrS
namespace Go.Proofs.YtobdkhjaipoliaaGreatDoor.Sx
open Go
set_option linter.unusedVariables false
set_option linter.unusedSimpArgs false
set_option maxRecDepth 100000
def TS : Tbl := TIrS ++ TIrA
theorem TS_ok : ∀ x ∈ TS, Known gAll x.1 x.2 := kappend TIrS_ok TIrA_ok
def Lv (l : Int) : Prop := l = 0 ∨ l = 1 ∨ l = 2
def szN (l : Int) : Nat := if l = 0 then 4096 else if l = 1 then 2097152 else 1073741824
def pgN (l : Int) : Nat := if l = 0 then 1 else if l = 1 then 512 else 262144
theorem szN_eq {l : Int} : szN l = 4096 * pgN l := by unfold szN pgN; split <;> (try split) <;> rfl
theorem pgN_pos {l : Int} : 0 < pgN l := by unfold pgN; split <;> (try split) <;> omega
theorem pgN_le {l : Int} : pgN l ≤ 262144 := by unfold pgN; split <;> (try split) <;> omega
theorem vaSize_con {l : Int} (h : Lv l) : Cn gAll 82 [i l] [u (szN l)] := by
  rcases h with rfl | rfl | rfl <;> exact con_of_run TS_ok rfl 50 rfl rfl
theorem refSize_con {l : Int} (h : Lv l) : Cn gAll 99 [i l] [u (szN l)] := by
  rcases h with rfl | rfl | rfl <;> exact con_of_run TS_ok rfl 50 rfl rfl
theorem pages_con {l : Int} (h : Lv l) : Cn gAll 88 [i l] [u (pgN l)] := by
  rcases h with rfl | rfl | rfl <;> exact con_of_run TS_ok rfl 50 rfl rfl
theorem refPages_con {l : Int} (h : Lv l) : Cn gAll 98 [i l] [u (pgN l)] := by
  rcases h with rfl | rfl | rfl <;> exact con_of_run TS_ok rfl 50 rfl rfl
theorem number_con {a : Nat} (ha : a < 18446744073709551616) : Cn gAll 54 [u a] [u (a / 4096 % 134217728)] := by
  refine con rfl rfl va_Number_c va_Number_p rfl ?_
  refine wp_call rfl (bitsGet_con (lo := 12) (w := 27) ha (by omega) (by omega)) rfl ?_
  simp only [lv_cons, lv_nil, app_cons, app_nil]
  exact wp_return rfl rfl
theorem offset_con {a : Nat} {l : Int} (ha : a < 18446744073709551616) (h : Lv l) : Cn gAll 94 [u a, i l] [u (a % szN l)] := by
  refine con rfl rfl va_Offset_c va_Offset_p rfl ?_
  rcases h with rfl | rfl | rfl
  · refine wp_chk rfl ?_
    refine wp_lt (d := U 4095) rfl ?_
    simp only [lv_cons, lv_nil, app_cons, app_nil]
    refine wp_lt (u_and rfl rfl ha (by omega)) ?_
    simp only [lv_cons, lv_nil, app_cons, app_nil]
    exact wp_return rfl (by rw [show (4095 : Nat) = 2 ^ 12 - 1 from rfl, and_mask]; rfl)
  · refine wp_chk rfl ?_
    refine wp_lt (d := U 2097151) rfl ?_
    simp only [lv_cons, lv_nil, app_cons, app_nil]
    refine wp_lt (u_and rfl rfl ha (by omega)) ?_
    simp only [lv_cons, lv_nil, app_cons, app_nil]
    exact wp_return rfl (by rw [show (2097151 : Nat) = 2 ^ 21 - 1 from rfl, and_mask]; rfl)
  · refine wp_chk rfl ?_
    refine wp_lt (d := U 1073741823) rfl ?_
    simp only [lv_cons, lv_nil, app_cons, app_nil]
    refine wp_lt (u_and rfl rfl ha (by omega)) ?_
    simp only [lv_cons, lv_nil, app_cons, app_nil]
    exact wp_return rfl (by rw [show (1073741823 : Nat) = 2 ^ 30 - 1 from rfl, and_mask]; rfl)
theorem base_con {a : Nat} {l : Int} (ha : a < 18446744073709551616) (h : Lv l) : Cn gAll 55 [u a, i l] [u (a - a % szN l)] := by
  refine con rfl rfl va_Base_c va_Base_p rfl ?_
  refine wp_call rfl (offset_con ha h) rfl ?_
  simp only [lv_cons, lv_nil, app_cons, app_nil]
  refine wp_lt (u_sub rfl rfl (Nat.mod_le ..) ha) ?_
  simp only [lv_cons, lv_nil, app_cons, app_nil]
  exact wp_return rfl rfl
theorem fits_con {a w : Nat} (ha : a < 18446744073709551616) (hw : w < 64) : Cn gAll 89 [u a, i w] [bb (decide (a < 2 ^ w))] := by
  refine con rfl rfl entry_fits_c entry_fits_p rfl ?_
  have hp0 : 0 < 2 ^ w := Nat.pow_pos (by omega)
  refine wp_call rfl (bitsGet_con (lo := 0) ha (by omega) (by omega)) rfl ?_
  simp only [lv_cons, lv_nil, app_cons, app_nil]
  refine wp_lt rfl ?_
  simp only [lv_cons, lv_nil, app_cons, app_nil]
  refine wp_return rfl (bb_iff ?_)
  rw [getN, Nat.pow_zero, Nat.div_one]
  simp only [beq_iff_eq, decide_eq_true_eq]
  constructor
  · intro h
    have := Nat.mod_lt a hp0
    omega
  · intro h
    rw [Nat.mod_eq_of_lt h]
theorem isVa_con {a : Nat} : Cn gAll 35 [u a] [bb (decide (a < 274877906944 ∨ 18446743798831644672 ≤ a))] := by
  refine con rfl rfl atlasref05_Is_c atlasref05_Is_p rfl ?_
  refine wp_lt rfl ?_
  simp only [lv_cons, lv_nil, app_cons, app_nil]
  refine wp_ite rfl (fun h => ?_) (fun h => ?_)
  · have h := of_decide_eq_true h
    exact wp_return rfl (bb_iff (by simp; omega))
  · have h := of_decide_eq_false h
    refine wp_lt rfl ?_
    simp only [lv_cons, lv_nil, app_cons, app_nil]
    exact wp_return rfl (bb_iff (by simp; omega))
structure En where
  v : Bool
  asid : Nat
  g : Bool
  lv : Int
  vpn : Nat
  ppn : Nat
  p1 : Bool
  p2 : Bool
  p3 : Bool
  p4 : Bool
  d : Bool
def En.ds (e : En) : List D := [.b e.v, U e.asid, .b e.g, I e.lv, U e.vpn, U e.ppn, .b e.p1, .b e.p2, .b e.p3, .b e.p4, .b e.d]
abbrev En.dv (e : En) : DV := (true, e.ds)
structure En.Ok (e : En) : Prop where
  asid : e.asid < 18446744073709551616
  vpn : e.vpn < 18446744073709551616
  ppn : e.ppn < 18446744073709551616
structure En.May (e : En) : Prop where
  lv : Lv e.lv
  vpn : e.vpn < 134217728
  ppn : e.ppn < 17592186044416
  asid : e.asid < 65536
  ve : e.vpn % pgN e.lv = 0
  pe : e.ppn % pgN e.lv = 0
def En.zero : En := ⟨false, 0, false, 0, 0, 0, false, false, false, false, false⟩
instance (l : Int) : Decidable (Lv l) := inferInstanceAs (Decidable (_ ∨ _))
def En.mayB (e : En) : Bool := decide (Lv e.lv) && decide (e.vpn < 134217728) && decide (e.ppn < 17592186044416) && decide (e.asid < 65536) && decide (e.vpn % pgN e.lv = 0) && decide (e.ppn % pgN e.lv = 0)
def En.zeroB (e : En) : Bool := !e.v && e.asid == 0 && !e.g && e.lv == 0 && e.vpn == 0 && e.ppn == 0 && !e.p1 && !e.p2 && !e.p3 && !e.p4 && !e.d
def En.may (e : En) : Bool := if e.v then e.mayB else e.zeroB
theorem En.mayB_iff {e : En} : e.mayB = true ↔ e.May := by
  unfold En.mayB
  simp only [Bool.and_eq_true, decide_eq_true_eq]
  exact ⟨fun ⟨⟨⟨⟨⟨a, b⟩, c⟩, d⟩, e⟩, f⟩ => ⟨a, b, c, d, e, f⟩, fun ⟨a, b, c, d, e, f⟩ => ⟨⟨⟨⟨⟨a, b⟩, c⟩, d⟩, e⟩, f⟩⟩
theorem En.zeroB_eq {e : En} (h : e.zeroB = true) : e = En.zero := by
  obtain ⟨v, asid, g, lv, vpn, ppn, p1, p2, p3, p4, d⟩ := e
  simp [En.zeroB] at h
  simp [En.zero, h]
end Go.Proofs.YtobdkhjaipoliaaGreatDoor.Sx
namespace Go.Proofs.YtobdkhjaipoliaaGreatDoor.Sx
open Go
set_option linter.unusedVariables false
set_option linter.unusedSimpArgs false
set_option maxRecDepth 100000
section
variable {ρ : List D} {x y : Ex}
theorem eqt_f {t : Bool} (hx : x.eval ρ = some (.b t)) : (Ex.eqt true x (.c (.b false))).eval ρ = some (.b (!t)) := by
  cases t <;> simp [Ex.eval, hx, eqtD]
theorem eqt_n {k : IntKind} {a : Int} (hx : x.eval ρ = some (.i k a)) : (Ex.eqt false x (.c (.i k 0))).eval ρ = some (.b (a == 0)) := by
  simp [Ex.eval, hx, eqtD]
theorem ite_and {p q : Bool} (hx : x.eval ρ = some (.b p)) (hy : y.eval ρ = some (.b q)) : (Ex.ite x y (.c (.b false))).eval ρ = some (.b (p && q)) := by
  cases p <;> simp [Ex.eval, hx, hy]
end
theorem zero_eval {e : En} {r : List D} :
    (Ex.ite (.eqt true (.v 0) (.c (.b false))) (.ite (.eqt false (.v 1) (.c (.i .u64 0))) (.ite (.eqt true (.v 2) (.c (.b false))) (.ite (.eqt false (.v 3) (.c (.i .i64 0))) (.ite (.eqt false (.v 4) (.c (.i .u64 0))) (.ite (.eqt false (.v 5) (.c (.i .u64 0)))
      (.ite (.eqt true (.v 6) (.c (.b false))) (.ite (.eqt true (.v 7) (.c (.b false))) (.ite (.eqt true (.v 8) (.c (.b false))) (.ite (.eqt true (.v 9) (.c (.b false))) (.ite (.eqt true (.v 10) (.c (.b false))) (.c (.b true)) (.c (.b false))) (.c (.b false))) (.c (.b false)))
      (.c (.b false))) (.c (.b false))) (.c (.b false))) (.c (.b false))) (.c (.b false))) (.c (.b false))) (.c (.b false))) (.c (.b false))).eval (e.ds ++ r) = some (.b e.zeroB) := by
  have h := ite_and (ρ := e.ds ++ r) (eqt_f (x := .v 0) rfl) (ite_and (eqt_n (x := .v 1) rfl) (ite_and (eqt_f (x := .v 2) rfl) (ite_and (eqt_n (x := .v 3) rfl) (ite_and (eqt_n (x := .v 4) rfl) (ite_and (eqt_n (x := .v 5) rfl)
    (ite_and (eqt_f (x := .v 6) rfl) (ite_and (eqt_f (x := .v 7) rfl) (ite_and (eqt_f (x := .v 8) rfl) (ite_and (eqt_f (x := .v 9) rfl) (ite_and (eqt_f (x := .v 10) rfl) (y := .c (.b true)) rfl))))))))))
  have c : ∀ n : Nat, ((n : Int) == 0) = (n == 0) := fun n => by rw [Bool.eq_iff_iff]; simp
  rw [h]
  simp [En.zeroB, Bool.and_assoc, c]
theorem En.may_of {e : En} (hv : e.v = true) (hl : Lv e.lv) : e.may = true ↔ (e.vpn < 134217728 ∧ e.ppn < 17592186044416 ∧ e.asid < 65536 ∧ e.vpn % pgN e.lv = 0 ∧ e.ppn % pgN e.lv = 0) := by
  rw [En.may, if_pos hv, En.mayB_iff]
  exact ⟨fun ⟨a, b, c, d, e, f⟩ => ⟨b, c, d, e, f⟩, fun ⟨b, c, d, e, f⟩ => ⟨hl, b, c, d, e, f⟩⟩
theorem En.may_not {e : En} (hv : e.v = true) (hl : ¬ Lv e.lv) : e.may = false := by
  cases h : e.may with
  | false => rfl
  | true =>
    rw [En.may, if_pos hv, En.mayB_iff] at h
    exact absurd h.lv hl
theorem may_con {e : En} (he : e.Ok) : Cn gAll 50 [e.dv] [bb e.may] := by
  refine con rfl rfl entry_May_c entry_May_p rfl ?_
  simp only [lv_cons, lv_nil, En.ds, app_cons, app_nil]
  obtain ⟨h1, h2, h3⟩ := he
  refine wp_lt rfl ?_
  simp only [lv_cons, lv_nil, app_cons, app_nil]
  refine wp_ite rfl (fun hv => ?_) (fun hv => ?_)
  · refine wp_lt (zero_eval (e := e)) ?_
    simp only [lv_cons, lv_nil, app_cons, app_nil]
    refine wp_return rfl (bb_eq ?_)
    have hv : e.v = false := by simpa using hv
    simp [En.may, hv]
  · have hv : e.v = true := by simpa using hv
    refine wp_lt rfl ?_
    simp only [lv_cons, lv_nil, app_cons, app_nil]
    refine wp_ite rfl (fun h => ?_) (fun h => ?_)
    · refine wp_lt (zero_eval (e := e)) ?_
      simp only [lv_cons, lv_nil, app_cons, app_nil]
      refine wp_return rfl (bb_eq ?_)
      have h := of_decide_eq_true h
      have hl : ¬ Lv e.lv := by unfold Lv; omega
      rw [En.may_not hv hl]
      simp [En.zeroB, hv]
    · have h := of_decide_eq_false h
      refine wp_lt rfl ?_
      simp only [lv_cons, lv_nil, app_cons, app_nil]
      refine wp_ite rfl (fun h' => ?_) (fun h' => ?_)
      · refine wp_lt (zero_eval (e := e)) ?_
        simp only [lv_cons, lv_nil, app_cons, app_nil]
        refine wp_return rfl (bb_eq ?_)
        have h' := of_decide_eq_true h'
        have hl : ¬ Lv e.lv := by unfold Lv; omega
        rw [En.may_not hv hl]
        simp [En.zeroB, hv]
      · have h' := of_decide_eq_false h'
        have hl : Lv e.lv := by unfold Lv; omega
        refine wp_call rfl (pages_con hl) rfl ?_
        simp only [lv_cons, lv_nil, app_cons, app_nil]
        refine wp_call rfl (fits_con (w := 27) h2 (by omega)) rfl ?_
        simp only [lv_cons, lv_nil, app_cons, app_nil]
        refine wp_ite rfl (fun c1 => ?_) (fun c1 => ?_)
        · refine wp_call rfl (fits_con (w := 44) h3 (by omega)) rfl ?_
          simp only [lv_cons, lv_nil, app_cons, app_nil]
          refine wp_ite rfl (fun c2 => ?_) (fun c2 => ?_)
          · refine wp_call rfl (fits_con (w := 16) h1 (by omega)) rfl ?_
            simp only [lv_cons, lv_nil, app_cons, app_nil]
            refine wp_ite rfl (fun c3 => ?_) (fun c3 => ?_)
            · refine wp_call rfl (even_con (Nat.pos_iff_ne_zero.1 pgN_pos)) rfl ?_
              simp only [lv_cons, lv_nil, app_cons, app_nil]
              refine wp_ite rfl (fun c4 => ?_) (fun c4 => ?_)
              · refine wp_call rfl (even_con (Nat.pos_iff_ne_zero.1 pgN_pos)) rfl ?_
                simp only [lv_cons, lv_nil, app_cons, app_nil]
                refine wp_return rfl (bb_iff ?_)
                simp only [decide_eq_true_eq] at c1 c2 c3 c4 ⊢
                rw [En.may_of hv hl]
                omega
              · refine wp_return rfl (bb_iff ?_)
                simp only [decide_eq_false_iff_not] at c4
                rw [En.may_of hv hl]
                simp only [Bool.false_eq_true, false_iff]
                omega
            · refine wp_return rfl (bb_iff ?_)
              simp only [decide_eq_false_iff_not] at c3
              rw [En.may_of hv hl]
              simp only [Bool.false_eq_true, false_iff]
              omega
          · refine wp_return rfl (bb_iff ?_)
            simp only [decide_eq_false_iff_not] at c2
            rw [En.may_of hv hl]
            simp only [Bool.false_eq_true, false_iff]
            omega
        · refine wp_return rfl (bb_iff ?_)
          simp only [decide_eq_false_iff_not] at c1
          rw [En.may_of hv hl]
          simp only [Bool.false_eq_true, false_iff]
          omega
theorem refMay_con {e : En} : Cn gAll 97 [e.dv] [bb e.may] := by
  refine con rfl rfl atlasref12_May_c atlasref12_May_p rfl ?_
  simp only [lv_cons, lv_nil, En.ds, app_cons, app_nil]
  refine wp_lt rfl ?_
  simp only [lv_cons, lv_nil, app_cons, app_nil]
  refine wp_ite rfl (fun hv => ?_) (fun hv => ?_)
  · refine wp_lt (zero_eval (e := e)) ?_
    simp only [lv_cons, lv_nil, app_cons, app_nil]
    refine wp_return rfl (bb_eq ?_)
    have hv : e.v = false := by simpa using hv
    simp [En.may, hv]
  · have hv : e.v = true := by simpa using hv
    refine wp_lt rfl ?_
    simp only [lv_cons, lv_nil, app_cons, app_nil]
    refine wp_ite rfl (fun h => ?_) (fun h => ?_)
    · refine wp_lt rfl ?_
      simp only [lv_cons, lv_nil, app_cons, app_nil]
      refine wp_ite rfl (fun h' => ?_) (fun h' => ?_)
      · refine wp_lt rfl ?_
        simp only [lv_cons, lv_nil, app_cons, app_nil]
        refine wp_ite rfl (fun h'' => ?_) (fun h'' => ?_)
        · refine wp_return rfl (bb_eq ?_)
          have hl : ¬ Lv e.lv := by simp at h h' h''; unfold Lv; omega
          simp [En.may, hv, En.mayB, hl]
        · have hl : Lv e.lv := by simp at h''; unfold Lv; omega
          refine wp_call rfl (refPages_con hl) rfl ?_
          simp only [lv_cons, lv_nil, app_cons, app_nil]
          refine wp_lt rfl ?_
          simp only [lv_cons, lv_nil, app_cons, app_nil]
          refine wp_ite rfl (fun c1 => ?_) (fun c1 => ?_)
          · refine wp_lt rfl ?_
            simp only [lv_cons, lv_nil, app_cons, app_nil]
            refine wp_ite rfl (fun c2 => ?_) (fun c2 => ?_)
            · refine wp_lt rfl ?_
              simp only [lv_cons, lv_nil, app_cons, app_nil]
              refine wp_ite rfl (fun c3 => ?_) (fun c3 => ?_)
              · refine wp_lt (u_rem rfl rfl (Nat.pos_iff_ne_zero.1 pgN_pos)) ?_
                simp only [lv_cons, lv_nil, app_cons, app_nil]
                refine wp_lt rfl ?_
                simp only [lv_cons, lv_nil, app_cons, app_nil]
                refine wp_ite rfl (fun c4 => ?_) (fun c4 => ?_)
                · refine wp_lt (u_rem rfl rfl (Nat.pos_iff_ne_zero.1 pgN_pos)) ?_
                  simp only [lv_cons, lv_nil, app_cons, app_nil]
                  refine wp_lt rfl ?_
                  simp only [lv_cons, lv_nil, app_cons, app_nil]
                  refine wp_return rfl (bb_iff ?_)
                  have c1 := of_decide_eq_true c1
                  have c2 := of_decide_eq_true c2
                  have c3 := of_decide_eq_true c3
                  have c4 := eq_of_beq c4
                  rw [En.may_of hv hl, beq_iff_eq]
                  omega
                · refine wp_return rfl (bb_iff ?_)
                  have c4 := ne_of_beq_false c4
                  rw [En.may_of hv hl]
                  simp only [Bool.false_eq_true, false_iff]
                  omega
              · refine wp_return rfl (bb_iff ?_)
                simp only [decide_eq_false_iff_not] at c3
                rw [En.may_of hv hl]
                simp only [Bool.false_eq_true, false_iff]
                omega
            · refine wp_return rfl (bb_iff ?_)
              simp only [decide_eq_false_iff_not] at c2
              rw [En.may_of hv hl]
              simp only [Bool.false_eq_true, false_iff]
              omega
          · refine wp_return rfl (bb_iff ?_)
            simp only [decide_eq_false_iff_not] at c1
            rw [En.may_of hv hl]
            simp only [Bool.false_eq_true, false_iff]
            omega
      · have hl : Lv e.lv := by simp at h'; unfold Lv; omega
        refine wp_call rfl (refPages_con hl) rfl ?_
        simp only [lv_cons, lv_nil, app_cons, app_nil]
        refine wp_lt rfl ?_
        simp only [lv_cons, lv_nil, app_cons, app_nil]
        refine wp_ite rfl (fun c1 => ?_) (fun c1 => ?_)
        · refine wp_lt rfl ?_
          simp only [lv_cons, lv_nil, app_cons, app_nil]
          refine wp_ite rfl (fun c2 => ?_) (fun c2 => ?_)
          · refine wp_lt rfl ?_
            simp only [lv_cons, lv_nil, app_cons, app_nil]
            refine wp_ite rfl (fun c3 => ?_) (fun c3 => ?_)
            · refine wp_lt (u_rem rfl rfl (Nat.pos_iff_ne_zero.1 pgN_pos)) ?_
              simp only [lv_cons, lv_nil, app_cons, app_nil]
              refine wp_lt rfl ?_
              simp only [lv_cons, lv_nil, app_cons, app_nil]
              refine wp_ite rfl (fun c4 => ?_) (fun c4 => ?_)
              · refine wp_lt (u_rem rfl rfl (Nat.pos_iff_ne_zero.1 pgN_pos)) ?_
                simp only [lv_cons, lv_nil, app_cons, app_nil]
                refine wp_lt rfl ?_
                simp only [lv_cons, lv_nil, app_cons, app_nil]
                refine wp_return rfl (bb_iff ?_)
                have c1 := of_decide_eq_true c1
                have c2 := of_decide_eq_true c2
                have c3 := of_decide_eq_true c3
                have c4 := eq_of_beq c4
                rw [En.may_of hv hl, beq_iff_eq]
                omega
              · refine wp_return rfl (bb_iff ?_)
                have c4 := ne_of_beq_false c4
                rw [En.may_of hv hl]
                simp only [Bool.false_eq_true, false_iff]
                omega
            · refine wp_return rfl (bb_iff ?_)
              simp only [decide_eq_false_iff_not] at c3
              rw [En.may_of hv hl]
              simp only [Bool.false_eq_true, false_iff]
              omega
          · refine wp_return rfl (bb_iff ?_)
            simp only [decide_eq_false_iff_not] at c2
            rw [En.may_of hv hl]
            simp only [Bool.false_eq_true, false_iff]
            omega
        · refine wp_return rfl (bb_iff ?_)
          simp only [decide_eq_false_iff_not] at c1
          rw [En.may_of hv hl]
          simp only [Bool.false_eq_true, false_iff]
          omega
    · have hl : Lv e.lv := by simp at h; unfold Lv; omega
      refine wp_call rfl (refPages_con hl) rfl ?_
      simp only [lv_cons, lv_nil, app_cons, app_nil]
      refine wp_lt rfl ?_
      simp only [lv_cons, lv_nil, app_cons, app_nil]
      refine wp_ite rfl (fun c1 => ?_) (fun c1 => ?_)
      · refine wp_lt rfl ?_
        simp only [lv_cons, lv_nil, app_cons, app_nil]
        refine wp_ite rfl (fun c2 => ?_) (fun c2 => ?_)
        · refine wp_lt rfl ?_
          simp only [lv_cons, lv_nil, app_cons, app_nil]
          refine wp_ite rfl (fun c3 => ?_) (fun c3 => ?_)
          · refine wp_lt (u_rem rfl rfl (Nat.pos_iff_ne_zero.1 pgN_pos)) ?_
            simp only [lv_cons, lv_nil, app_cons, app_nil]
            refine wp_lt rfl ?_
            simp only [lv_cons, lv_nil, app_cons, app_nil]
            refine wp_ite rfl (fun c4 => ?_) (fun c4 => ?_)
            · refine wp_lt (u_rem rfl rfl (Nat.pos_iff_ne_zero.1 pgN_pos)) ?_
              simp only [lv_cons, lv_nil, app_cons, app_nil]
              refine wp_lt rfl ?_
              simp only [lv_cons, lv_nil, app_cons, app_nil]
              refine wp_return rfl (bb_iff ?_)
              have c1 := of_decide_eq_true c1
              have c2 := of_decide_eq_true c2
              have c3 := of_decide_eq_true c3
              have c4 := eq_of_beq c4
              rw [En.may_of hv hl, beq_iff_eq]
              omega
            · refine wp_return rfl (bb_iff ?_)
              have c4 := ne_of_beq_false c4
              rw [En.may_of hv hl]
              simp only [Bool.false_eq_true, false_iff]
              omega
          · refine wp_return rfl (bb_iff ?_)
            simp only [decide_eq_false_iff_not] at c3
            rw [En.may_of hv hl]
            simp only [Bool.false_eq_true, false_iff]
            omega
        · refine wp_return rfl (bb_iff ?_)
          simp only [decide_eq_false_iff_not] at c2
          rw [En.may_of hv hl]
          simp only [Bool.false_eq_true, false_iff]
          omega
      · refine wp_return rfl (bb_iff ?_)
        simp only [decide_eq_false_iff_not] at c1
        rw [En.may_of hv hl]
        simp only [Bool.false_eq_true, false_iff]
        omega
def sameF (e f : En) : Bool := e.v && f.v && e.lv == f.lv && e.vpn == f.vpn && (e.asid == f.asid || e.g || f.g)
theorem same_con {e f : En} : Cn gAll 90 [e.dv, f.dv] [bb (sameF e f)] := by
  refine con rfl rfl set_Same_c set_Same_p rfl ?_
  simp only [lv_cons, lv_nil, En.ds, app_cons, app_nil]
  have key : ∀ {x y : Bool}, x = y → [bb x] = [bb y] := bb_eq
  repeat' first
    | refine wp_lt rfl ?_
    | refine wp_ite rfl (fun _ => ?_) (fun _ => ?_)
    | refine wp_return rfl (bb_iff ?_)
  all_goals (simp_all [sameF, Int.natCast_inj]; try omega)
def coversF (e : En) (a : Nat) : Bool := e.v && decide (e.vpn ≤ a / 4096 % 134217728) && decide (a / 4096 % 134217728 < e.vpn + pgN e.lv)
def matchF (e : En) (n a : Nat) : Bool := coversF e a && (e.g || e.asid == n)
theorem base_page {a : Nat} {l : Int} : (a - a % szN l) / 4096 % 134217728 = a / 4096 % 134217728 - a / 4096 % 134217728 % pgN l := by
  have : ∀ l : Int, szN l = 4096 * pgN l := fun l => szN_eq
  unfold szN pgN
  split
  · omega
  · split <;> omega
theorem covers_con {e : En} {a : Nat} (ha : a < 18446744073709551616) (he : e.May) : Cn gAll 123 [e.dv, u a] [bb (coversF e a)] := by
  refine con rfl rfl entry_Covers_c entry_Covers_p rfl ?_
  simp only [lv_cons, lv_nil, En.ds, app_cons, app_nil]
  refine wp_ite rfl (fun hv => ?_) (fun hv => ?_)
  · refine wp_call rfl (base_con ha he.lv) rfl ?_
    simp only [lv_cons, lv_nil, app_cons, app_nil]
    refine wp_call rfl (number_con (Nat.lt_of_le_of_lt (Nat.sub_le ..) ha)) rfl ?_
    simp only [lv_cons, lv_nil, app_cons, app_nil]
    refine wp_lt rfl ?_
    simp only [lv_cons, lv_nil, app_cons, app_nil]
    refine wp_return rfl (bb_iff ?_)
    rw [base_page]
    have h1 := he.ve
    have h2 := pgN_pos (l := e.lv)
    simp [coversF, hv]
    generalize a / 4096 % 134217728 = n at *
    generalize pgN e.lv = p at *
    obtain ⟨q, hq⟩ := Nat.dvd_of_mod_eq_zero h1
    have h3 := Nat.div_add_mod n p
    have h4 := Nat.mod_lt n h2
    rw [hq]
    have e1 : n - n % p = p * (n / p) := by omega
    constructor
    · intro h
      have e2 : p * (n / p) = p * q := by omega
      omega
    · rintro ⟨h5, h6⟩
      have h7 : q ≤ n / p := (Nat.le_div_iff_mul_le h2).2 (by rw [Nat.mul_comm]; exact h5)
      have h8 : n / p < q + 1 := (Nat.div_lt_iff_lt_mul h2).2 (by rw [Nat.mul_comm, Nat.mul_add, Nat.mul_one]; exact h6)
      have h9 : n / p = q := by omega
      rw [h9] at e1
      omega
  · refine wp_return rfl (bb_eq ?_)
    simp [coversF, hv]
theorem matches_con {e : En} {n a : Nat} (ha : a < 18446744073709551616) (he : e.May) : Cn gAll 116 [e.dv, u n, u a] [bb (matchF e n a)] := by
  refine con rfl rfl entry_Matches_c entry_Matches_p rfl ?_
  simp only [lv_cons, lv_nil, En.ds, app_cons, app_nil]
  refine wp_call rfl (covers_con ha he) rfl ?_
  simp only [lv_cons, lv_nil, app_cons, app_nil]
  repeat' first
    | refine wp_lt rfl ?_
    | refine wp_ite rfl (fun _ => ?_) (fun _ => ?_)
    | refine wp_return rfl (bb_iff ?_)
  all_goals (simp_all [matchF]; try omega)
end Go.Proofs.YtobdkhjaipoliaaGreatDoor.Sx
namespace Go.Proofs.YtobdkhjaipoliaaGreatDoor.Sx
open Go
set_option linter.unusedVariables false
set_option linter.unusedSimpArgs false
set_option maxRecDepth 100000
abbrev t8 (n : Nat) : DV := (false, [.i .u8 (n : Int)])
structure SetD where
  w0 : En
  w1 : En
  w2 : En
  w3 : En
  t : Nat
def SetD.ws (s : SetD) : List D := s.w0.ds ++ (s.w1.ds ++ (s.w2.ds ++ s.w3.ds))
def SetD.ds (s : SetD) : List D := s.w0.ds ++ (s.w1.ds ++ (s.w2.ds ++ (s.w3.ds ++ [.i .u8 (s.t : Int)])))
abbrev SetD.dv (s : SetD) : DV := (true, s.ds)
structure SetD.Ok (s : SetD) : Prop where
  w0 : s.w0.Ok
  w1 : s.w1.Ok
  w2 : s.w2.Ok
  w3 : s.w3.Ok
def touN (t w : Nat) : Nat := if w = 0 then t / 4 * 4 + 3 else if w = 1 then t / 4 * 4 + 1 else if w = 2 then t / 2 % 2 * 2 + 4 else t / 2 % 2 * 2
def vicN (t : Nat) : Nat := if t % 2 = 0 then t / 2 % 2 else 2 + t / 4
theorem touch_con {t w : Nat} (ht : t < 8) (hw : w < 4) : Cn gAll 114 [t8 t, i w] [t8 (touN t w)] := by
  have h1 : ((List.range 8).all fun t => (List.range 4).all fun w => isV (run TS 100 plru_Touch_ir [] [.i .u8 (t : Int), I w]) [t8 (touN t w)]) = true := by kernel_rfl
  have a1 := List.all_eq_true.1 (List.all_eq_true.1 h1 t (List.mem_range.2 ht)) w (List.mem_range.2 hw)
  exact con_of_run TS_ok rfl 100 rfl (isV_eq a1)
theorem victim_con {t : Nat} (ht : t < 8) : Cn gAll 113 [t8 t] [i (vicN t)] := by
  have h1 : ((List.range 8).all fun t => isV (run TS 100 plru_Victim_ir [] [.i .u8 (t : Int)]) [i (vicN t)]) = true := by kernel_rfl
  exact con_of_run TS_ok rfl 100 rfl (isV_eq (List.all_eq_true.1 h1 t (List.mem_range.2 ht)))
def SetD.right (s : SetD) : Bool := decide (s.t < 8) && s.w0.may && s.w1.may && s.w2.may && s.w3.may
theorem refRight_con {s : SetD} : Cn gAll 66 [s.dv] [bb s.right] := by
  refine con rfl rfl atlasref13_Right_c atlasref13_Right_p rfl ?_
  unfold atlasref13_Right_ir
  simp only [lv_cons, lv_nil, SetD.ds, SetD.ws, En.ds, app_cons, app_nil]
  refine wp_rounds (fun m ds => ∃ (b : Bool) (n : Nat), ds = [.b b, I n] ∧ n + m = 5 ∧ n ≤ 4 ∧ (0 < n → s.w0.may = true) ∧ (1 < n → s.w1.may = true) ∧ (2 < n → s.w2.may = true) ∧ (3 < n → s.w3.may = true)) 5 rfl ⟨false, 0, rfl, rfl, by omega, by omega, by omega, by omega, by omega⟩ ?_
    (fun es hes => by obtain ⟨_, n, _, h1, h2, _⟩ := hes; omega)
  rintro m es Q ⟨b, n, rfl, hn, hn', h0, h1, h2, h3⟩ hQ
  simp only [lv_cons, lv_nil, app_cons, app_nil]
  have hcase : n = 0 ∨ n = 1 ∨ n = 2 ∨ n = 3 ∨ n = 4 := by omega
  rcases hcase with rfl | rfl | rfl | rfl | rfl
  · refine wp_lt rfl ?_
    simp only [lv_cons, lv_nil, app_cons, app_nil]
    refine wp_ite (t := true) rfl (fun _ => ?_) (fun h => by cases h)
    refine wp_chk rfl ?_
    refine wp_call rfl (refMay_con (e := s.w0)) rfl ?_
    simp only [lv_cons, lv_nil, app_cons, app_nil]
    refine wp_lt rfl ?_
    simp only [lv_cons, lv_nil, app_cons, app_nil]
    refine wp_ite rfl (fun h => ?_) (fun h => ?_)
    · refine wp_return rfl (bb_iff ?_)
      simp at h
      simp [SetD.right, h]
    · simp at h
      refine wp_lt (d := I (0 + 1 : Nat)) rfl ?_
      simp only [lv_cons, lv_nil, app_cons, app_nil]
      exact wp_cont rfl rfl (hQ _ ⟨_, 0 + 1, rfl, by omega, by omega, fun _ => by first | exact h | exact h0 (by omega), fun _ => by first | omega | exact h | exact h1 (by omega), fun _ => by first | omega | exact h | exact h2 (by omega), fun _ => by first | omega | exact h | exact h3 (by omega)⟩)
  · refine wp_lt rfl ?_
    simp only [lv_cons, lv_nil, app_cons, app_nil]
    refine wp_ite (t := true) rfl (fun _ => ?_) (fun h => by cases h)
    refine wp_chk rfl ?_
    refine wp_call rfl (refMay_con (e := s.w1)) rfl ?_
    simp only [lv_cons, lv_nil, app_cons, app_nil]
    refine wp_lt rfl ?_
    simp only [lv_cons, lv_nil, app_cons, app_nil]
    refine wp_ite rfl (fun h => ?_) (fun h => ?_)
    · refine wp_return rfl (bb_iff ?_)
      simp at h
      simp [SetD.right, h]
    · simp at h
      refine wp_lt (d := I (1 + 1 : Nat)) rfl ?_
      simp only [lv_cons, lv_nil, app_cons, app_nil]
      exact wp_cont rfl rfl (hQ _ ⟨_, 1 + 1, rfl, by omega, by omega, fun _ => by first | exact h | exact h0 (by omega), fun _ => by first | omega | exact h | exact h1 (by omega), fun _ => by first | omega | exact h | exact h2 (by omega), fun _ => by first | omega | exact h | exact h3 (by omega)⟩)
  · refine wp_lt rfl ?_
    simp only [lv_cons, lv_nil, app_cons, app_nil]
    refine wp_ite (t := true) rfl (fun _ => ?_) (fun h => by cases h)
    refine wp_chk rfl ?_
    refine wp_call rfl (refMay_con (e := s.w2)) rfl ?_
    simp only [lv_cons, lv_nil, app_cons, app_nil]
    refine wp_lt rfl ?_
    simp only [lv_cons, lv_nil, app_cons, app_nil]
    refine wp_ite rfl (fun h => ?_) (fun h => ?_)
    · refine wp_return rfl (bb_iff ?_)
      simp at h
      simp [SetD.right, h]
    · simp at h
      refine wp_lt (d := I (2 + 1 : Nat)) rfl ?_
      simp only [lv_cons, lv_nil, app_cons, app_nil]
      exact wp_cont rfl rfl (hQ _ ⟨_, 2 + 1, rfl, by omega, by omega, fun _ => by first | exact h | exact h0 (by omega), fun _ => by first | omega | exact h | exact h1 (by omega), fun _ => by first | omega | exact h | exact h2 (by omega), fun _ => by first | omega | exact h | exact h3 (by omega)⟩)
  · refine wp_lt rfl ?_
    simp only [lv_cons, lv_nil, app_cons, app_nil]
    refine wp_ite (t := true) rfl (fun _ => ?_) (fun h => by cases h)
    refine wp_chk rfl ?_
    refine wp_call rfl (refMay_con (e := s.w3)) rfl ?_
    simp only [lv_cons, lv_nil, app_cons, app_nil]
    refine wp_lt rfl ?_
    simp only [lv_cons, lv_nil, app_cons, app_nil]
    refine wp_ite rfl (fun h => ?_) (fun h => ?_)
    · refine wp_return rfl (bb_iff ?_)
      simp at h
      simp [SetD.right, h]
    · simp at h
      refine wp_lt (d := I (3 + 1 : Nat)) rfl ?_
      simp only [lv_cons, lv_nil, app_cons, app_nil]
      exact wp_cont rfl rfl (hQ _ ⟨_, 3 + 1, rfl, by omega, by omega, fun _ => by first | exact h | exact h0 (by omega), fun _ => by first | omega | exact h | exact h1 (by omega), fun _ => by first | omega | exact h | exact h2 (by omega), fun _ => by first | omega | exact h | exact h3 (by omega)⟩)
  · refine wp_lt rfl ?_
    simp only [lv_cons, lv_nil, app_cons, app_nil]
    refine wp_ite (t := false) rfl (fun h => by cases h) (fun _ => ?_)
    refine wp_lt rfl ?_
    simp only [lv_cons, lv_nil, app_cons, app_nil]
    refine wp_return rfl (bb_iff ?_)
    simp [SetD.right, h0, h1, h2, h3]
    omega
end Go.Proofs.YtobdkhjaipoliaaGreatDoor.Sx
namespace Go.Proofs.YtobdkhjaipoliaaGreatDoor.Sx
open Go
set_option linter.unusedVariables false
set_option linter.unusedSimpArgs false
set_option maxRecDepth 100000
theorem En.may_May {e : En} (h : e.may = true) : e.May := by
  unfold En.may at h
  split at h
  · exact En.mayB_iff.1 h
  · rw [En.zeroB_eq h]
    exact ⟨.inl rfl, by decide, by decide, by decide, by decide, by decide⟩
theorem SetD.right_may {s : SetD} (h : s.right = true) : s.t < 8 ∧ s.w0.may = true ∧ s.w1.may = true ∧ s.w2.may = true ∧ s.w3.may = true := by
  simpa [SetD.right, and_assoc] using h
def hitF (e : En) (n a : Nat) (l : Int) : Bool := e.lv == l && matchF e n a
def findF (s : SetD) (n a : Nat) (l : Int) : Int × Bool := if hitF s.w0 n a l then (0, true) else if hitF s.w1 n a l then (1, true) else if hitF s.w2 n a l then (2, true) else if hitF s.w3 n a l then (3, true) else (0, false)
theorem find_con {s : SetD} {n a : Nat} {l : Int} (ha : a < 18446744073709551616) (hl : Lv l) (hs : s.right = true) : Cn gAll 95 [s.dv, u n, u a, i l] [i (findF s n a l).1, bb (findF s n a l).2] := by
  refine con rfl rfl set_Find_c set_Find_p rfl ?_
  obtain ⟨ht, m0, m1, m2, m3⟩ := SetD.right_may hs
  have c0 := matches_con (e := s.w0) (n := n) ha (En.may_May m0)
  have c1 := matches_con (e := s.w1) (n := n) ha (En.may_May m1)
  have c2 := matches_con (e := s.w2) (n := n) ha (En.may_May m2)
  have c3 := matches_con (e := s.w3) (n := n) ha (En.may_May m3)
  unfold set_Find_ir
  simp only [lv_cons, lv_nil, SetD.ds, SetD.ws, En.ds, app_cons, app_nil]
  repeat' first
    | refine wp_lt rfl ?_
    | refine wp_ite rfl (fun _ => ?_) (fun _ => ?_)
    | (refine wp_call rfl c0 rfl ?_; simp only [lv_cons, lv_nil, app_cons, app_nil])
    | (refine wp_call rfl c1 rfl ?_; simp only [lv_cons, lv_nil, app_cons, app_nil])
    | (refine wp_call rfl c2 rfl ?_; simp only [lv_cons, lv_nil, app_cons, app_nil])
    | (refine wp_call rfl c3 rfl ?_; simp only [lv_cons, lv_nil, app_cons, app_nil])
    | refine wp_return rfl ?_
  all_goals (simp_all [findF, hitF])
def SetD.use (s : SetD) (k : Nat) : SetD := { s with t := touN s.t k }
def SetD.put (s : SetD) (k : Nat) (e : En) : SetD :=
  match k with
  | 0 => { s with w0 := e }
  | 1 => { s with w1 := e }
  | 2 => { s with w2 := e }
  | _ => { s with w3 := e }
theorem SetD.put_t (s : SetD) (k : Nat) (e : En) : (s.put k e).t = s.t := by unfold SetD.put; split <;> rfl
theorem use_con {s : SetD} {k : Nat} (ht : s.t < 8) (hk : k < 4) : Cn gAll 92 [s.dv, i k] [(s.use k).dv] := by
  refine con rfl rfl set_Use_c set_Use_p rfl ?_
  unfold set_Use_ir
  simp only [lv_cons, lv_nil, SetD.ds, SetD.ws, En.ds, app_cons, app_nil]
  refine wp_call rfl (touch_con ht hk) rfl ?_
  simp only [lv_cons, lv_nil, app_cons, app_nil]
  exact wp_return rfl rfl
theorem drop_con {s : SetD} {k : Nat} (hk : k < 4) : Cn gAll 57 [s.dv, i k] [(s.put k En.zero).dv] := by
  have hcase : k = 0 ∨ k = 1 ∨ k = 2 ∨ k = 3 := by omega
  refine con rfl rfl set_Drop_c set_Drop_p rfl ?_
  unfold set_Drop_ir
  simp only [lv_cons, lv_nil, SetD.ds, SetD.ws, En.ds, app_cons, app_nil]
  rcases hcase with rfl | rfl | rfl | rfl <;> exact wp_chk rfl (wp_return rfl rfl)
def goesF (s : SetD) (v : Int) : Nat := if 0 ≤ v ∧ v < 4 then v.toNat else if s.w0.v = false then 0 else if s.w1.v = false then 1 else if s.w2.v = false then 2 else if s.w3.v = false then 3 else vicN s.t
theorem vicN_lt {t : Nat} (h : t < 8) : vicN t < 4 := by unfold vicN; split <;> omega
theorem goesF_lt {s : SetD} {v : Int} (h : s.t < 8) : goesF s v < 4 := by
  have := vicN_lt h
  unfold goesF
  (repeat' split) <;> omega
theorem goes_con {s : SetD} {v : Int} (ht : s.t < 8) : Cn gAll 91 [s.dv, i v] [i (goesF s v)] := by
  refine con rfl rfl set_goes_c set_goes_p rfl ?_
  unfold set_goes_ir
  simp only [lv_cons, lv_nil, SetD.ds, SetD.ws, En.ds, app_cons, app_nil]
  have hv := (victim_con ht)
  repeat' first
    | refine wp_lt rfl ?_
    | refine wp_ite rfl (fun _ => ?_) (fun _ => ?_)
    | (refine wp_call rfl hv rfl ?_; simp only [lv_cons, lv_nil, app_cons, app_nil])
    | refine wp_return rfl ?_
  all_goals
    simp only [decide_eq_true_eq, decide_eq_false_iff_not, Bool.not_eq_true', Bool.not_eq_false'] at *
    unfold goesF
    (repeat' split) <;> simp_all <;> omega
end Go.Proofs.YtobdkhjaipoliaaGreatDoor.Sx
namespace Go.Proofs.YtobdkhjaipoliaaGreatDoor.Sx
open Go
set_option linter.unusedVariables false
set_option linter.unusedSimpArgs false
set_option maxRecDepth 100000
def dW (e w : En) : En := if sameF e w = true then En.zero else w
def dropTo (e : En) (s : SetD) (n : Nat) : SetD := ⟨if 0 < n then dW e s.w0 else s.w0, if 1 < n then dW e s.w1 else s.w1, if 2 < n then dW e s.w2 else s.w2, if 3 < n then dW e s.w3 else s.w3, s.t⟩
def setPutK (s : SetD) (e : En) (v : Int) : Nat := goesF (dropTo e s 4) v
def setPut (s : SetD) (e : En) (v : Int) : SetD := ((dropTo e s 4).put (setPutK s e v) e).use (setPutK s e v)
set_option maxHeartbeats 4000000 in
theorem put_con {s : SetD} {e : En} {v : Int} (ht : s.t < 8) : Cn gAll 52 [s.dv, e.dv, i v] [(setPut s e v).dv, i (setPutK s e v)] := by
  refine con rfl rfl set_Put_c set_Put_p rfl ?_
  unfold set_Put_ir
  simp only [lv_cons, lv_nil, SetD.ds, SetD.ws, En.ds, app_cons, app_nil]
  refine wp_rounds (fun m ds => ∃ (n : Nat) (s' : SetD), ds = I n :: s'.ds ∧ n + m = 5 ∧ n ≤ 4 ∧ s' = dropTo e s n) 5 rfl ⟨0, s, rfl, by omega, by omega, by simp [dropTo]⟩ ?_
    (fun es hes => by obtain ⟨k, _, _, h1, h2, _⟩ := hes; omega)
  rintro m es Q ⟨n, s', rfl, hn, hn', hs'⟩ hQ
  have ht' : s'.t < 8 := by rw [hs']; exact ht
  simp only [SetD.ds, En.ds, app_cons, app_nil]
  have hcase : n = 0 ∨ n = 1 ∨ n = 2 ∨ n = 3 ∨ n = 4 := by omega
  rcases hcase with rfl | rfl | rfl | rfl | rfl
  · refine wp_lt rfl ?_
    simp only [lv_cons, lv_nil, app_cons, app_nil]
    refine wp_ite (t := true) rfl (fun _ => ?_) (fun h => by cases h)
    refine wp_chk rfl ?_
    refine wp_call rfl (same_con (e := e) (f := s.w0)) rfl ?_
    simp only [lv_cons, lv_nil, app_cons, app_nil]
    refine wp_ite rfl (fun h => ?_) (fun h => ?_)
    · refine wp_call rfl (drop_con (s := s') (k := 0) (by omega)) rfl ?_
      simp only [lv_cons, lv_nil, SetD.ds, SetD.put, En.ds, app_cons, app_nil]
      refine wp_lt (d := I (0 + 1 : Nat)) rfl ?_
      simp only [lv_cons, lv_nil, app_cons, app_nil]
      exact wp_cont rfl rfl (hQ _ ⟨0 + 1, s'.put 0 En.zero, rfl, by omega, by omega, by rw [hs']; simp [dropTo, SetD.put, dW, h]⟩)
    · refine wp_lt (d := I (0 + 1 : Nat)) rfl ?_
      simp only [lv_cons, lv_nil, app_cons, app_nil]
      exact wp_cont rfl rfl (hQ _ ⟨0 + 1, s', rfl, by omega, by omega, by rw [hs']; simp [dropTo, dW, h]⟩)
  · refine wp_lt rfl ?_
    simp only [lv_cons, lv_nil, app_cons, app_nil]
    refine wp_ite (t := true) rfl (fun _ => ?_) (fun h => by cases h)
    refine wp_chk rfl ?_
    refine wp_call rfl (same_con (e := e) (f := s.w1)) rfl ?_
    simp only [lv_cons, lv_nil, app_cons, app_nil]
    refine wp_ite rfl (fun h => ?_) (fun h => ?_)
    · refine wp_call rfl (drop_con (s := s') (k := 1) (by omega)) rfl ?_
      simp only [lv_cons, lv_nil, SetD.ds, SetD.put, En.ds, app_cons, app_nil]
      refine wp_lt (d := I (1 + 1 : Nat)) rfl ?_
      simp only [lv_cons, lv_nil, app_cons, app_nil]
      exact wp_cont rfl rfl (hQ _ ⟨1 + 1, s'.put 1 En.zero, rfl, by omega, by omega, by rw [hs']; simp [dropTo, SetD.put, dW, h]⟩)
    · refine wp_lt (d := I (1 + 1 : Nat)) rfl ?_
      simp only [lv_cons, lv_nil, app_cons, app_nil]
      exact wp_cont rfl rfl (hQ _ ⟨1 + 1, s', rfl, by omega, by omega, by rw [hs']; simp [dropTo, dW, h]⟩)
  · refine wp_lt rfl ?_
    simp only [lv_cons, lv_nil, app_cons, app_nil]
    refine wp_ite (t := true) rfl (fun _ => ?_) (fun h => by cases h)
    refine wp_chk rfl ?_
    refine wp_call rfl (same_con (e := e) (f := s.w2)) rfl ?_
    simp only [lv_cons, lv_nil, app_cons, app_nil]
    refine wp_ite rfl (fun h => ?_) (fun h => ?_)
    · refine wp_call rfl (drop_con (s := s') (k := 2) (by omega)) rfl ?_
      simp only [lv_cons, lv_nil, SetD.ds, SetD.put, En.ds, app_cons, app_nil]
      refine wp_lt (d := I (2 + 1 : Nat)) rfl ?_
      simp only [lv_cons, lv_nil, app_cons, app_nil]
      exact wp_cont rfl rfl (hQ _ ⟨2 + 1, s'.put 2 En.zero, rfl, by omega, by omega, by rw [hs']; simp [dropTo, SetD.put, dW, h]⟩)
    · refine wp_lt (d := I (2 + 1 : Nat)) rfl ?_
      simp only [lv_cons, lv_nil, app_cons, app_nil]
      exact wp_cont rfl rfl (hQ _ ⟨2 + 1, s', rfl, by omega, by omega, by rw [hs']; simp [dropTo, dW, h]⟩)
  · refine wp_lt rfl ?_
    simp only [lv_cons, lv_nil, app_cons, app_nil]
    refine wp_ite (t := true) rfl (fun _ => ?_) (fun h => by cases h)
    refine wp_chk rfl ?_
    refine wp_call rfl (same_con (e := e) (f := s.w3)) rfl ?_
    simp only [lv_cons, lv_nil, app_cons, app_nil]
    refine wp_ite rfl (fun h => ?_) (fun h => ?_)
    · refine wp_call rfl (drop_con (s := s') (k := 3) (by omega)) rfl ?_
      simp only [lv_cons, lv_nil, SetD.ds, SetD.put, En.ds, app_cons, app_nil]
      refine wp_lt (d := I (3 + 1 : Nat)) rfl ?_
      simp only [lv_cons, lv_nil, app_cons, app_nil]
      exact wp_cont rfl rfl (hQ _ ⟨3 + 1, s'.put 3 En.zero, rfl, by omega, by omega, by rw [hs']; simp [dropTo, SetD.put, dW, h]⟩)
    · refine wp_lt (d := I (3 + 1 : Nat)) rfl ?_
      simp only [lv_cons, lv_nil, app_cons, app_nil]
      exact wp_cont rfl rfl (hQ _ ⟨3 + 1, s', rfl, by omega, by omega, by rw [hs']; simp [dropTo, dW, h]⟩)
  · refine wp_lt rfl ?_
    simp only [lv_cons, lv_nil, app_cons, app_nil]
    refine wp_ite (t := false) rfl (fun h => by cases h) (fun _ => ?_)
    have hcon := goes_con (s := s') (v := v) ht'
    have hlt := goesF_lt (s := s') (v := v) ht'
    obtain ⟨k, hg⟩ : ∃ k, goesF s' v = k := ⟨_, rfl⟩
    rw [hg] at hcon hlt
    refine wp_call rfl hcon rfl ?_
    simp only [lv_cons, lv_nil, app_cons, app_nil]
    have hcase : k = 0 ∨ k = 1 ∨ k = 2 ∨ k = 3 := by omega
    rcases hcase with rfl | rfl | rfl | rfl
    · refine wp_chk rfl ?_
      refine wp_call rfl (use_con (s := s'.put 0 e) (k := 0) (by rw [SetD.put_t]; exact ht') (by omega)) rfl ?_
      simp only [lv_cons, lv_nil, SetD.ds, SetD.put, SetD.use, En.ds, app_cons, app_nil]
      refine wp_return rfl ?_
      rw [setPut, setPutK, ← hs', hg]
      rfl
    · refine wp_chk rfl ?_
      refine wp_call rfl (use_con (s := s'.put 1 e) (k := 1) (by rw [SetD.put_t]; exact ht') (by omega)) rfl ?_
      simp only [lv_cons, lv_nil, SetD.ds, SetD.put, SetD.use, En.ds, app_cons, app_nil]
      refine wp_return rfl ?_
      rw [setPut, setPutK, ← hs', hg]
      rfl
    · refine wp_chk rfl ?_
      refine wp_call rfl (use_con (s := s'.put 2 e) (k := 2) (by rw [SetD.put_t]; exact ht') (by omega)) rfl ?_
      simp only [lv_cons, lv_nil, SetD.ds, SetD.put, SetD.use, En.ds, app_cons, app_nil]
      refine wp_return rfl ?_
      rw [setPut, setPutK, ← hs', hg]
      rfl
    · refine wp_chk rfl ?_
      refine wp_call rfl (use_con (s := s'.put 3 e) (k := 3) (by rw [SetD.put_t]; exact ht') (by omega)) rfl ?_
      simp only [lv_cons, lv_nil, SetD.ds, SetD.put, SetD.use, En.ds, app_cons, app_nil]
      refine wp_return rfl ?_
      rw [setPut, setPutK, ← hs', hg]
      rfl
end Go.Proofs.YtobdkhjaipoliaaGreatDoor.Sx
namespace Go.Proofs.YtobdkhjaipoliaaGreatDoor.Sx
open Go
set_option linter.unusedVariables false
set_option linter.unusedSimpArgs false
set_option maxRecDepth 100000
def SetD.at (s : SetD) : Nat → En
  | 0 => s.w0
  | 1 => s.w1
  | 2 => s.w2
  | _ => s.w3
theorem dW_may {e w : En} (h : w.may = true) : (dW e w).may = true := by
  unfold dW
  split
  · decide
  · exact h
def putW (e : En) (s : SetD) (k : Nat) : SetD := ⟨if k = 0 then e else dW e s.w0, if k = 1 then e else dW e s.w1, if k = 2 then e else dW e s.w2, if k = 3 then e else dW e s.w3, touN s.t k⟩
theorem putW_0 {e : En} {s : SetD} : putW e s 0 = ⟨e, dW e s.w1, dW e s.w2, dW e s.w3, touN s.t 0⟩ := rfl
theorem putW_1 {e : En} {s : SetD} : putW e s 1 = ⟨dW e s.w0, e, dW e s.w2, dW e s.w3, touN s.t 1⟩ := rfl
theorem putW_2 {e : En} {s : SetD} : putW e s 2 = ⟨dW e s.w0, dW e s.w1, e, dW e s.w3, touN s.t 2⟩ := rfl
theorem putW_3 {e : En} {s : SetD} : putW e s 3 = ⟨dW e s.w0, dW e s.w1, dW e s.w2, e, touN s.t 3⟩ := rfl
theorem setPut_eq {s : SetD} {e : En} {v : Int} {k : Nat} (hk : setPutK s e v = k) (h4 : k < 4) : setPut s e v = putW e s k := by
  unfold setPut
  rw [hk]
  have hcase : k = 0 ∨ k = 1 ∨ k = 2 ∨ k = 3 := by omega
  rcases hcase with rfl | rfl | rfl | rfl <;> simp [SetD.put, SetD.use, dropTo, putW]
theorem touN_lt {t k : Nat} (ht : t < 8) (hk : k < 4) : touN t k < 8 := by
  unfold touN
  split
  · omega
  · split
    · omega
    · split <;> omega
theorem putW_right {e : En} {s : SetD} {k : Nat} (hs : s.right = true) (he : e.may = true) (hk : k < 4) : (putW e s k).right = true := by
  obtain ⟨ht, m0, m1, m2, m3⟩ := SetD.right_may hs
  simp only [SetD.right, putW, Bool.and_eq_true]
  refine ⟨⟨⟨⟨decide_eq_true (touN_lt ht hk), ?_⟩, ?_⟩, ?_⟩, ?_⟩ <;> split <;> first | exact he | (apply dW_may; assumption)
theorem putW_ok {e : En} {s : SetD} {k : Nat} (hs : s.Ok) (he : e.Ok) : (putW e s k).Ok := by
  have hz : ∀ w : En, w.Ok → (dW e w).Ok := fun w hw => by
    unfold dW
    split
    · exact ⟨by decide, by decide, by decide⟩
    · exact hw
  refine ⟨?_, ?_, ?_, ?_⟩ <;> simp only [putW] <;> split <;> first | exact he | (apply hz; first | exact hs.w0 | exact hs.w1 | exact hs.w2 | exact hs.w3)
end Go.Proofs.YtobdkhjaipoliaaGreatDoor.Sx
