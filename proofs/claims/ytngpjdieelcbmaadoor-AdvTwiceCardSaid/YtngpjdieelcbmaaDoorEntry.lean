/-
  Layer 12: what may be, what matches: entries' functions and their references.
-/
import Derived.Test.YtngpjdieelcbmaaDoorVa
namespace Go.Proofs.YtngpjdieelcbmaaDoor.Sx
open Go
set_option linter.unusedVariables false
set_option linter.unusedSimpArgs false
set_option maxRecDepth 100000

section
variable {ρ : List D} {x y : Ex}
theorem eqt_f {t : Bool} (hx : x.eval ρ = some (.b t)) : (Ex.eqt true x (.c (.b false))).eval ρ = some (.b (!t)) := by
  cases t <;> simp [Ex.eval, hx, eqtD]
theorem eqt_n {k : IntKind} {a : Int} (hx : x.eval ρ = some (.i k a)) : (Ex.eqt false x (.c (.i k 0))).eval ρ = some (.b (a == 0)) := by
  simp [Ex.eval, hx, eqtD]
theorem ite_and {p q : Bool} (hx : x.eval ρ = some (.b p)) (hy : y.eval ρ = some (.b q)) : (Ex.ite x y (.c (.b false))).eval ρ = some (.b (p && q)) := by
  cases p <;> simp [Ex.eval, hx, hy]
end
theorem zero_eval {e : En} {r : List D} :
    (Ex.ite (.eqt true (.v 0) (.c (.b false))) (.ite (.eqt false (.v 1) (.c (.i .u64 0))) (.ite (.eqt true (.v 2) (.c (.b false))) (.ite (.eqt false (.v 3) (.c (.i .i64 0))) (.ite (.eqt false (.v 4) (.c (.i .u64 0))) (.ite (.eqt false (.v 5) (.c (.i .u64 0)))
      (.ite (.eqt true (.v 6) (.c (.b false))) (.ite (.eqt true (.v 7) (.c (.b false))) (.ite (.eqt true (.v 8) (.c (.b false))) (.ite (.eqt true (.v 9) (.c (.b false))) (.ite (.eqt true (.v 10) (.c (.b false))) (.c (.b true)) (.c (.b false))) (.c (.b false))) (.c (.b false)))
      (.c (.b false))) (.c (.b false))) (.c (.b false))) (.c (.b false))) (.c (.b false))) (.c (.b false))) (.c (.b false))) (.c (.b false))).eval (e.ds ++ r) = some (.b e.zeroB) := by
  have h := ite_and (ρ := e.ds ++ r) (eqt_f (x := .v 0) rfl) (ite_and (eqt_n (x := .v 1) rfl) (ite_and (eqt_f (x := .v 2) rfl) (ite_and (eqt_n (x := .v 3) rfl) (ite_and (eqt_n (x := .v 4) rfl) (ite_and (eqt_n (x := .v 5) rfl)
    (ite_and (eqt_f (x := .v 6) rfl) (ite_and (eqt_f (x := .v 7) rfl) (ite_and (eqt_f (x := .v 8) rfl) (ite_and (eqt_f (x := .v 9) rfl) (ite_and (eqt_f (x := .v 10) rfl) (y := .c (.b true)) rfl))))))))))
  have c : ∀ n : Nat, ((n : Int) == 0) = (n == 0) := fun n => by rw [Bool.eq_iff_iff]; simp
  rw [h]
  simp [En.zeroB, Bool.and_assoc, c]

theorem En.may_of {e : En} (hv : e.v = true) (hl : Lv e.lv) : e.may = true ↔ (e.vpn < 134217728 ∧ e.ppn < 17592186044416 ∧ e.asid < 65536 ∧ e.vpn % pgN e.lv = 0 ∧ e.ppn % pgN e.lv = 0) := by
  rw [En.may, if_pos hv, En.mayB_iff]
  exact ⟨fun ⟨a, b, c, d, e, f⟩ => ⟨b, c, d, e, f⟩, fun ⟨b, c, d, e, f⟩ => ⟨hl, b, c, d, e, f⟩⟩
theorem En.may_not {e : En} (hv : e.v = true) (hl : ¬ Lv e.lv) : e.may = false := by
  cases h : e.may with
  | false => rfl
  | true =>
    rw [En.may, if_pos hv, En.mayB_iff] at h
    exact absurd h.lv hl

theorem may_con {e : En} (he : e.Ok) : Cn gAll 36 [e.dv] [bb e.may] := by
  refine con rfl rfl entry_May_c entry_May_p rfl ?_
  simp only [lv_cons, lv_nil, En.ds, app_cons, app_nil]
  obtain ⟨h1, h2, h3⟩ := he
  refine wp_lt rfl ?_
  simp only [lv_cons, lv_nil, app_cons, app_nil]
  refine wp_ite rfl (fun hv => ?_) (fun hv => ?_)
  · refine wp_lt (zero_eval (e := e)) ?_
    simp only [lv_cons, lv_nil, app_cons, app_nil]
    refine wp_return rfl (bb_eq ?_)
    have hv : e.v = false := by simpa using hv
    simp [En.may, hv]
  · have hv : e.v = true := by simpa using hv
    refine wp_lt rfl ?_
    simp only [lv_cons, lv_nil, app_cons, app_nil]
    refine wp_ite rfl (fun h => ?_) (fun h => ?_)
    · refine wp_lt (zero_eval (e := e)) ?_
      simp only [lv_cons, lv_nil, app_cons, app_nil]
      refine wp_return rfl (bb_eq ?_)
      have h := of_decide_eq_true h
      have hl : ¬ Lv e.lv := by unfold Lv; omega
      rw [En.may_not hv hl]
      simp [En.zeroB, hv]
    · have h := of_decide_eq_false h
      refine wp_lt rfl ?_
      simp only [lv_cons, lv_nil, app_cons, app_nil]
      refine wp_ite rfl (fun h' => ?_) (fun h' => ?_)
      · refine wp_lt (zero_eval (e := e)) ?_
        simp only [lv_cons, lv_nil, app_cons, app_nil]
        refine wp_return rfl (bb_eq ?_)
        have h' := of_decide_eq_true h'
        have hl : ¬ Lv e.lv := by unfold Lv; omega
        rw [En.may_not hv hl]
        simp [En.zeroB, hv]
      · have h' := of_decide_eq_false h'
        have hl : Lv e.lv := by unfold Lv; omega
        refine wp_call rfl (pages_con hl) rfl ?_
        simp only [lv_cons, lv_nil, app_cons, app_nil]
        refine wp_call rfl (fits_con (w := 27) h2 (by omega)) rfl ?_
        simp only [lv_cons, lv_nil, app_cons, app_nil]
        refine wp_ite rfl (fun c1 => ?_) (fun c1 => ?_)
        · refine wp_call rfl (fits_con (w := 44) h3 (by omega)) rfl ?_
          simp only [lv_cons, lv_nil, app_cons, app_nil]
          refine wp_ite rfl (fun c2 => ?_) (fun c2 => ?_)
          · refine wp_call rfl (fits_con (w := 16) h1 (by omega)) rfl ?_
            simp only [lv_cons, lv_nil, app_cons, app_nil]
            refine wp_ite rfl (fun c3 => ?_) (fun c3 => ?_)
            · refine wp_call rfl (even_con (Nat.pos_iff_ne_zero.1 pgN_pos)) rfl ?_
              simp only [lv_cons, lv_nil, app_cons, app_nil]
              refine wp_ite rfl (fun c4 => ?_) (fun c4 => ?_)
              · refine wp_call rfl (even_con (Nat.pos_iff_ne_zero.1 pgN_pos)) rfl ?_
                simp only [lv_cons, lv_nil, app_cons, app_nil]
                refine wp_return rfl (bb_iff ?_)
                simp only [decide_eq_true_eq] at c1 c2 c3 c4 ⊢
                rw [En.may_of hv hl]
                omega
              · refine wp_return rfl (bb_iff ?_)
                simp only [decide_eq_false_iff_not] at c4
                rw [En.may_of hv hl]
                simp only [Bool.false_eq_true, false_iff]
                omega
            · refine wp_return rfl (bb_iff ?_)
              simp only [decide_eq_false_iff_not] at c3
              rw [En.may_of hv hl]
              simp only [Bool.false_eq_true, false_iff]
              omega
          · refine wp_return rfl (bb_iff ?_)
            simp only [decide_eq_false_iff_not] at c2
            rw [En.may_of hv hl]
            simp only [Bool.false_eq_true, false_iff]
            omega
        · refine wp_return rfl (bb_iff ?_)
          simp only [decide_eq_false_iff_not] at c1
          rw [En.may_of hv hl]
          simp only [Bool.false_eq_true, false_iff]
          omega


theorem refMay_con {e : En} : Cn gAll 67 [e.dv] [bb e.may] := by
  refine con rfl rfl atlasref12_May_c atlasref12_May_p rfl ?_
  simp only [lv_cons, lv_nil, En.ds, app_cons, app_nil]
  refine wp_lt rfl ?_
  simp only [lv_cons, lv_nil, app_cons, app_nil]
  refine wp_ite rfl (fun hv => ?_) (fun hv => ?_)
  · refine wp_lt (zero_eval (e := e)) ?_
    simp only [lv_cons, lv_nil, app_cons, app_nil]
    refine wp_return rfl (bb_eq ?_)
    have hv : e.v = false := by simpa using hv
    simp [En.may, hv]
  · have hv : e.v = true := by simpa using hv
    refine wp_lt rfl ?_
    simp only [lv_cons, lv_nil, app_cons, app_nil]
    refine wp_ite rfl (fun h => ?_) (fun h => ?_)
    · refine wp_lt rfl ?_
      simp only [lv_cons, lv_nil, app_cons, app_nil]
      refine wp_ite rfl (fun h' => ?_) (fun h' => ?_)
      · refine wp_lt rfl ?_
        simp only [lv_cons, lv_nil, app_cons, app_nil]
        refine wp_ite rfl (fun h'' => ?_) (fun h'' => ?_)
        · refine wp_return rfl (bb_eq ?_)
          have hl : ¬ Lv e.lv := by simp at h h' h''; unfold Lv; omega
          simp [En.may, hv, En.mayB, hl]
        · have hl : Lv e.lv := by simp at h''; unfold Lv; omega
          refine wp_call rfl (refPages_con hl) rfl ?_
          simp only [lv_cons, lv_nil, app_cons, app_nil]
          refine wp_lt rfl ?_
          simp only [lv_cons, lv_nil, app_cons, app_nil]
          refine wp_ite rfl (fun c1 => ?_) (fun c1 => ?_)
          · refine wp_lt rfl ?_
            simp only [lv_cons, lv_nil, app_cons, app_nil]
            refine wp_ite rfl (fun c2 => ?_) (fun c2 => ?_)
            · refine wp_lt rfl ?_
              simp only [lv_cons, lv_nil, app_cons, app_nil]
              refine wp_ite rfl (fun c3 => ?_) (fun c3 => ?_)
              · refine wp_lt (u_rem rfl rfl (Nat.pos_iff_ne_zero.1 pgN_pos)) ?_
                simp only [lv_cons, lv_nil, app_cons, app_nil]
                refine wp_lt rfl ?_
                simp only [lv_cons, lv_nil, app_cons, app_nil]
                refine wp_ite rfl (fun c4 => ?_) (fun c4 => ?_)
                · refine wp_lt (u_rem rfl rfl (Nat.pos_iff_ne_zero.1 pgN_pos)) ?_
                  simp only [lv_cons, lv_nil, app_cons, app_nil]
                  refine wp_lt rfl ?_
                  simp only [lv_cons, lv_nil, app_cons, app_nil]
                  refine wp_return rfl (bb_iff ?_)
                  have c1 := of_decide_eq_true c1
                  have c2 := of_decide_eq_true c2
                  have c3 := of_decide_eq_true c3
                  have c4 := eq_of_beq c4
                  rw [En.may_of hv hl, beq_iff_eq]
                  omega
                · refine wp_return rfl (bb_iff ?_)
                  have c4 := ne_of_beq_false c4
                  rw [En.may_of hv hl]
                  simp only [Bool.false_eq_true, false_iff]
                  omega
              · refine wp_return rfl (bb_iff ?_)
                simp only [decide_eq_false_iff_not] at c3
                rw [En.may_of hv hl]
                simp only [Bool.false_eq_true, false_iff]
                omega
            · refine wp_return rfl (bb_iff ?_)
              simp only [decide_eq_false_iff_not] at c2
              rw [En.may_of hv hl]
              simp only [Bool.false_eq_true, false_iff]
              omega
          · refine wp_return rfl (bb_iff ?_)
            simp only [decide_eq_false_iff_not] at c1
            rw [En.may_of hv hl]
            simp only [Bool.false_eq_true, false_iff]
            omega
      · have hl : Lv e.lv := by simp at h'; unfold Lv; omega
        refine wp_call rfl (refPages_con hl) rfl ?_
        simp only [lv_cons, lv_nil, app_cons, app_nil]
        refine wp_lt rfl ?_
        simp only [lv_cons, lv_nil, app_cons, app_nil]
        refine wp_ite rfl (fun c1 => ?_) (fun c1 => ?_)
        · refine wp_lt rfl ?_
          simp only [lv_cons, lv_nil, app_cons, app_nil]
          refine wp_ite rfl (fun c2 => ?_) (fun c2 => ?_)
          · refine wp_lt rfl ?_
            simp only [lv_cons, lv_nil, app_cons, app_nil]
            refine wp_ite rfl (fun c3 => ?_) (fun c3 => ?_)
            · refine wp_lt (u_rem rfl rfl (Nat.pos_iff_ne_zero.1 pgN_pos)) ?_
              simp only [lv_cons, lv_nil, app_cons, app_nil]
              refine wp_lt rfl ?_
              simp only [lv_cons, lv_nil, app_cons, app_nil]
              refine wp_ite rfl (fun c4 => ?_) (fun c4 => ?_)
              · refine wp_lt (u_rem rfl rfl (Nat.pos_iff_ne_zero.1 pgN_pos)) ?_
                simp only [lv_cons, lv_nil, app_cons, app_nil]
                refine wp_lt rfl ?_
                simp only [lv_cons, lv_nil, app_cons, app_nil]
                refine wp_return rfl (bb_iff ?_)
                have c1 := of_decide_eq_true c1
                have c2 := of_decide_eq_true c2
                have c3 := of_decide_eq_true c3
                have c4 := eq_of_beq c4
                rw [En.may_of hv hl, beq_iff_eq]
                omega
              · refine wp_return rfl (bb_iff ?_)
                have c4 := ne_of_beq_false c4
                rw [En.may_of hv hl]
                simp only [Bool.false_eq_true, false_iff]
                omega
            · refine wp_return rfl (bb_iff ?_)
              simp only [decide_eq_false_iff_not] at c3
              rw [En.may_of hv hl]
              simp only [Bool.false_eq_true, false_iff]
              omega
          · refine wp_return rfl (bb_iff ?_)
            simp only [decide_eq_false_iff_not] at c2
            rw [En.may_of hv hl]
            simp only [Bool.false_eq_true, false_iff]
            omega
        · refine wp_return rfl (bb_iff ?_)
          simp only [decide_eq_false_iff_not] at c1
          rw [En.may_of hv hl]
          simp only [Bool.false_eq_true, false_iff]
          omega
    · have hl : Lv e.lv := by simp at h; unfold Lv; omega
      refine wp_call rfl (refPages_con hl) rfl ?_
      simp only [lv_cons, lv_nil, app_cons, app_nil]
      refine wp_lt rfl ?_
      simp only [lv_cons, lv_nil, app_cons, app_nil]
      refine wp_ite rfl (fun c1 => ?_) (fun c1 => ?_)
      · refine wp_lt rfl ?_
        simp only [lv_cons, lv_nil, app_cons, app_nil]
        refine wp_ite rfl (fun c2 => ?_) (fun c2 => ?_)
        · refine wp_lt rfl ?_
          simp only [lv_cons, lv_nil, app_cons, app_nil]
          refine wp_ite rfl (fun c3 => ?_) (fun c3 => ?_)
          · refine wp_lt (u_rem rfl rfl (Nat.pos_iff_ne_zero.1 pgN_pos)) ?_
            simp only [lv_cons, lv_nil, app_cons, app_nil]
            refine wp_lt rfl ?_
            simp only [lv_cons, lv_nil, app_cons, app_nil]
            refine wp_ite rfl (fun c4 => ?_) (fun c4 => ?_)
            · refine wp_lt (u_rem rfl rfl (Nat.pos_iff_ne_zero.1 pgN_pos)) ?_
              simp only [lv_cons, lv_nil, app_cons, app_nil]
              refine wp_lt rfl ?_
              simp only [lv_cons, lv_nil, app_cons, app_nil]
              refine wp_return rfl (bb_iff ?_)
              have c1 := of_decide_eq_true c1
              have c2 := of_decide_eq_true c2
              have c3 := of_decide_eq_true c3
              have c4 := eq_of_beq c4
              rw [En.may_of hv hl, beq_iff_eq]
              omega
            · refine wp_return rfl (bb_iff ?_)
              have c4 := ne_of_beq_false c4
              rw [En.may_of hv hl]
              simp only [Bool.false_eq_true, false_iff]
              omega
          · refine wp_return rfl (bb_iff ?_)
            simp only [decide_eq_false_iff_not] at c3
            rw [En.may_of hv hl]
            simp only [Bool.false_eq_true, false_iff]
            omega
        · refine wp_return rfl (bb_iff ?_)
          simp only [decide_eq_false_iff_not] at c2
          rw [En.may_of hv hl]
          simp only [Bool.false_eq_true, false_iff]
          omega
      · refine wp_return rfl (bb_iff ?_)
        simp only [decide_eq_false_iff_not] at c1
        rw [En.may_of hv hl]
        simp only [Bool.false_eq_true, false_iff]
        omega

/-- are two entries of the same page? -/
def sameF (e f : En) : Bool := e.v && f.v && e.lv == f.lv && e.vpn == f.vpn && (e.asid == f.asid || e.g || f.g)

theorem same_con {e f : En} : Cn gAll 62 [e.dv, f.dv] [bb (sameF e f)] := by
  refine con rfl rfl set_Same_c set_Same_p rfl ?_
  simp only [lv_cons, lv_nil, En.ds, app_cons, app_nil]
  have key : ∀ {x y : Bool}, x = y → [bb x] = [bb y] := bb_eq
  repeat' first
    | refine wp_lt rfl ?_
    | refine wp_ite rfl (fun _ => ?_) (fun _ => ?_)
    | refine wp_return rfl (bb_iff ?_)
  all_goals (simp_all [sameF, Int.natCast_inj]; try omega)


/-- does an entry cover an address; does it match it for a number? -/
def coversF (e : En) (a : Nat) : Bool := e.v && decide (e.vpn ≤ a / 4096 % 134217728) && decide (a / 4096 % 134217728 < e.vpn + pgN e.lv)
def matchF (e : En) (n a : Nat) : Bool := coversF e a && (e.g || e.asid == n)

theorem base_page {a : Nat} {l : Int} : (a - a % szN l) / 4096 % 134217728 = a / 4096 % 134217728 - a / 4096 % 134217728 % pgN l := by
  have : ∀ l : Int, szN l = 4096 * pgN l := fun l => szN_eq
  unfold szN pgN
  split
  · omega
  · split <;> omega



end Go.Proofs.YtngpjdieelcbmaaDoor.Sx
