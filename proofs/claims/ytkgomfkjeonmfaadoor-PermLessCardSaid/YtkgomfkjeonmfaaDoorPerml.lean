/-
  Layer 8: PermLess.
-/
import Derived.Test.YtkgomfkjeonmfaaDoorPerm
namespace Go.Proofs.YtkgomfkjeonmfaaDoor.Sx
open Go
set_option maxRecDepth 100000
set_option linter.unusedVariables false
set_option linter.unusedSimpArgs false

def lessF (a b c d e f g h : Bool) : Bool := (e && !a) || (f && !b) || (g && !c) || !(h == d)
def allowsF (r w x u : Bool) (k m : Int) (s mx : Bool) : Bool :=
  (if m = 0 then u else if u then k != 0 && s else true) && (if k = 0 then x else if k = 1 then r || (x && mx) else w)

theorem less_con' (a b c d e f g h : Bool) : Cn gPerm 12 [P4 a b c d, P4 e f g h] [bb (lessF a b c d e f g h)] := by
  have hh : (allB fun a => allB fun b => allB fun c => allB fun d => allB fun e => allB fun f => allB fun g => allB fun h => isV (run TIrPerm 100 perm_Less_ir [] [.b a, .b b, .b c, .b d, .b e, .b f, .b g, .b h]) [bb (lessF a b c d e f g h)]) = true := by kernel_rfl
  exact con_of_run TIrPerm_ok rfl 100 rfl (isV_eq (allB_all (allB_all (allB_all (allB_all (allB_all (allB_all (allB_all (allB_all hh a) b) c) d) e) f) g) h))

theorem allows_con' (a b c d : Bool) {k m : Int} (s x : Bool) (hk : k = 0 ∨ k = 1 ∨ k = 2) (hm : m = 0 ∨ m = 1) : Cn gPerm 14 [P4 a b c d, W4 k m s x] [bb (allowsF a b c d k m s x)] := by
  have hh : (allB fun a => allB fun b => allB fun c => allB fun d => ([0, 1, 2] : List Int).all fun k => ([0, 1] : List Int).all fun m => allB fun s => allB fun x => isV (run TIrPerm 100 perm_Allows_ir [] [.b a, .b b, .b c, .b d, .i .i64 k, .i .i64 m, .b s, .b x])
    [bb (allowsF a b c d k m s x)]) = true := by kernel_rfl
  have h0 := allB_all (allB_all (allB_all (allB_all hh a) b) c) d
  have h1 := List.all_eq_true.1 h0 k (by rcases hk with rfl | rfl | rfl <;> simp)
  have h2 := List.all_eq_true.1 h1 m (by rcases hm with rfl | rfl <;> simp)
  exact con_of_run TIrPerm_ok rfl 100 rfl (isV_eq (allB_all (allB_all h2 s) x))

theorem less_trans (a b c d e f g h i j k l : Bool) (h1 : lessF a b c d e f g h = false) (h2 : lessF e f g h i j k l = false) : lessF a b c d i j k l = false := by
  revert h1 h2; cases a <;> cases b <;> cases c <;> cases d <;> revert e f g h i j k l <;> decide
theorem less_eq (a b c d e f g h : Bool) (h1 : lessF a b c d e f g h = false) (h2 : lessF e f g h a b c d = false) : a = e ∧ b = f ∧ c = g ∧ d = h := by
  revert h1 h2; revert a b c d e f g h; decide
theorem less_allows (a b c d e f g h : Bool) {k m : Int} (s x : Bool) (hk : k = 0 ∨ k = 1 ∨ k = 2) (hm : m = 0 ∨ m = 1) (h1 : lessF a b c d e f g h = false) (h2 : allowsF e f g h k m s x = true) : allowsF a b c d k m s x = true := by
  revert h1 h2; rcases hk with rfl | rfl | rfl <;> rcases hm with rfl | rfl <;> revert a b c d e f g h s x <;> decide

/-- the ways, one after the other -/
def WaysP (t : Bool) (m : Nat) : Lp := fun ds => ∃ (l : Bool) (n : Nat), ds = [.b l, .i .u8 n] ∧ n + m = 25 ∧ n ≤ 24 ∧ (l = true → t = true)


theorem wrap8 {n : Nat} (h : n < 25) : IntKind.u8.wrap ((n : Int) + 1) = ((n + 1 : Nat) : Int) := by
  have : ∀ n : Nat, n < 25 → IntKind.u8.wrap ((n : Int) + 1) = ((n + 1 : Nat) : Int) := by decide +kernel
  exact this n h

theorem PermLess_con {x y z : Int} (x0 : 0 ≤ x) (x1 : x < 256) (y0 : 0 ≤ y) (y1 : y < 256) (z0 : 0 ≤ z) (z1 : z < 256) : Cn gPerm 5 [b8 x, b8 y, b8 z] [bb true] := by
  refine con rfl rfl atlaslaw08_PermLess_c atlaslaw08_PermLess_p rfl ?_
  obtain ⟨a, b, c, d, hn1⟩ := number_con x0 x1
  obtain ⟨e, f, g, h, hn2⟩ := number_con y0 y1
  obtain ⟨i, j, k, l, hn3⟩ := number_con z0 z1
  unfold atlaslaw08_PermLess_ir
  refine wp_call rfl awake08_con rfl ?_
  simp only [lv_cons, lv_nil, app_cons, app_nil]
  refine wp_lt rfl ?_
  simp only [lv_cons, lv_nil, app_cons, app_nil]
  refine wp_ite (t := false) rfl (fun h => by cases h) (fun _ => ?_)
  refine wp_call rfl hn1 rfl ?_
  simp only [lv_cons, lv_nil, app_cons, app_nil]
  refine wp_call rfl hn2 rfl ?_
  simp only [lv_cons, lv_nil, app_cons, app_nil]
  refine wp_call rfl hn3 rfl ?_
  simp only [lv_cons, lv_nil, app_cons, app_nil]
  refine wp_call rfl (less_con' a b c d a b c d) rfl ?_
  simp only [lv_cons, lv_nil, app_cons, app_nil]
  refine wp_ite (t := false) (by cases a <;> cases b <;> cases c <;> cases d <;> rfl) (fun h => by cases h) (fun _ => ?_)
  refine wp_call rfl (less_con' a b c d e f g h) rfl ?_
  simp only [lv_cons, lv_nil, app_cons, app_nil]
  refine wp_lt rfl ?_
  simp only [lv_cons, lv_nil, app_cons, app_nil]
  refine wp_ite rfl (fun q1 => ?_) (fun q1 => ?_)
  · refine wp_call rfl (less_con' e f g h i j k l) rfl ?_
    simp only [lv_cons, lv_nil, app_cons, app_nil]
    refine wp_lt rfl ?_
    simp only [lv_cons, lv_nil, app_cons, app_nil]
    refine wp_ite rfl (fun q2 => ?_) (fun q2 => ?_)
    · refine wp_call rfl (less_con' a b c d i j k l) rfl ?_
      simp only [lv_cons, lv_nil, app_cons, app_nil]
      refine wp_ite rfl (fun q3 => ?_) (fun q3 => ?_)
      · rw [less_trans a b c d e f g h i j k l (by simpa using q1) (by simpa using q2)] at q3
        cases q3
      · refine wp_call rfl (less_con' a b c d e f g h) rfl ?_
        simp only [lv_cons, lv_nil, app_cons, app_nil]
        refine wp_lt rfl ?_
        simp only [lv_cons, lv_nil, app_cons, app_nil]
        refine wp_ite rfl (fun hpq => ?_) (fun hpq => ?_)
        · refine wp_call rfl (less_con' e f g h a b c d) rfl ?_
          simp only [lv_cons, lv_nil, app_cons, app_nil]
          refine wp_lt rfl ?_
          simp only [lv_cons, lv_nil, app_cons, app_nil]
          refine wp_ite rfl (fun hqp => ?_) (fun hqp => ?_)
          · have heq := less_eq a b c d e f g h (by simpa using hpq) (by simpa using hqp)
            refine wp_lt (d := .b false) (by obtain ⟨rfl, rfl, rfl, rfl⟩ := heq; cases a <;> cases b <;> cases c <;> cases d <;> rfl) ?_
            simp only [lv_cons, lv_nil, app_cons, app_nil]
            refine wp_ite (t := false) rfl (fun h => by cases h) (fun _ => ?_)
            refine wp_rounds (WaysP (lessF a b c d e f g h)) 25 rfl ⟨false, 0, rfl, rfl, by omega, fun h => by cases h⟩ ?_ (fun es hes => by obtain ⟨l, n, rfl, hn, hn', _⟩ := hes; omega)
            rintro m es Q ⟨l, n, rfl, hn, hn', hl⟩ hQ
            simp only [lv_cons, lv_nil, app_cons, app_nil]
            refine wp_lt (d := .b (decide ((n : Int) < 24))) rfl ?_
            simp only [lv_cons, lv_nil, app_cons, app_nil]
            refine wp_ite (t := decide ((n : Int) < 24)) rfl (fun hlt => ?_) (fun hlt => ?_)
            · have hlt : n < 24 := by have := of_decide_eq_true hlt; omega
              have hadd : ∀ {ρ : List D} {j : Nat}, ρ[j]? = some (.i .u8 (n : Int)) → (Ex.bin .add (.v j) (.c (.i .u8 1))).eval ρ = some (.i .u8 ((n + 1 : Nat) : Int)) := by
                intro ρ j hj
                simp [Ex.eval, hj, binD, wrap8 (show n < 25 by omega)]
              refine wp_ite (t := l) rfl (fun hll => ?_) (fun hll => ?_)
              · refine wp_lt (hadd rfl) ?_
                simp only [lv_cons, lv_nil, app_cons, app_nil]
                exact wp_cont rfl rfl (hQ _ ⟨true, n + 1, rfl, by omega, by omega, fun _ => hl hll⟩)
              · obtain ⟨k, m', s, x, hk, hm, hw⟩ := way_con (z := (n : Int)) (by omega) (by omega)
                refine wp_call rfl hw rfl ?_
                simp only [lv_cons, lv_nil, app_cons, app_nil]
                refine wp_call rfl (allows_con' e f g h s x hk hm) rfl ?_
                simp only [lv_cons, lv_nil, app_cons, app_nil]
                refine wp_ite rfl (fun ha => ?_) (fun ha => ?_)
                · refine wp_call rfl hw rfl ?_
                  simp only [lv_cons, lv_nil, app_cons, app_nil]
                  refine wp_call rfl (allows_con' a b c d s x hk hm) rfl ?_
                  simp only [lv_cons, lv_nil, app_cons, app_nil]
                  refine wp_lt rfl ?_
                  simp only [lv_cons, lv_nil, app_cons, app_nil]
                  refine wp_lt (hadd rfl) ?_
                  simp only [lv_cons, lv_nil, app_cons, app_nil]
                  refine wp_cont rfl rfl (hQ _ ⟨_, n + 1, rfl, by omega, by omega, fun hno => ?_⟩)
                  cases hless : lessF a b c d e f g h with
                  | true => rfl
                  | false =>
                    rw [less_allows a b c d e f g h s x hk hm hless ha] at hno
                    cases hno
                · refine wp_lt (hadd rfl) ?_
                  simp only [lv_cons, lv_nil, app_cons, app_nil]
                  exact wp_cont rfl rfl (hQ _ ⟨false, n + 1, rfl, by omega, by omega, fun h => by cases h⟩)
            · refine wp_lt rfl ?_
              simp only [lv_cons, lv_nil, app_cons, app_nil]
              refine wp_ite rfl (fun hll => ?_) (fun hll => ?_)
              · exact wp_return rfl rfl
              · refine wp_call rfl (less_con' _ _ _ _ _ _ _ _) rfl ?_
                simp only [lv_cons, lv_nil, app_cons, app_nil]
                refine wp_return rfl ?_
                have hll : l = true := by simpa using hll
                rw [hl hll]
          · refine wp_rounds (WaysP (lessF a b c d e f g h)) 25 rfl ⟨false, 0, rfl, rfl, by omega, fun h => by cases h⟩ ?_ (fun es hes => by obtain ⟨l, n, rfl, hn, hn', _⟩ := hes; omega)
            rintro m es Q ⟨l, n, rfl, hn, hn', hl⟩ hQ
            simp only [lv_cons, lv_nil, app_cons, app_nil]
            refine wp_lt (d := .b (decide ((n : Int) < 24))) rfl ?_
            simp only [lv_cons, lv_nil, app_cons, app_nil]
            refine wp_ite (t := decide ((n : Int) < 24)) rfl (fun hlt => ?_) (fun hlt => ?_)
            · have hlt : n < 24 := by have := of_decide_eq_true hlt; omega
              have hadd : ∀ {ρ : List D} {j : Nat}, ρ[j]? = some (.i .u8 (n : Int)) → (Ex.bin .add (.v j) (.c (.i .u8 1))).eval ρ = some (.i .u8 ((n + 1 : Nat) : Int)) := by
                intro ρ j hj
                simp [Ex.eval, hj, binD, wrap8 (show n < 25 by omega)]
              refine wp_ite (t := l) rfl (fun hll => ?_) (fun hll => ?_)
              · refine wp_lt (hadd rfl) ?_
                simp only [lv_cons, lv_nil, app_cons, app_nil]
                exact wp_cont rfl rfl (hQ _ ⟨true, n + 1, rfl, by omega, by omega, fun _ => hl hll⟩)
              · obtain ⟨k, m', s, x, hk, hm, hw⟩ := way_con (z := (n : Int)) (by omega) (by omega)
                refine wp_call rfl hw rfl ?_
                simp only [lv_cons, lv_nil, app_cons, app_nil]
                refine wp_call rfl (allows_con' e f g h s x hk hm) rfl ?_
                simp only [lv_cons, lv_nil, app_cons, app_nil]
                refine wp_ite rfl (fun ha => ?_) (fun ha => ?_)
                · refine wp_call rfl hw rfl ?_
                  simp only [lv_cons, lv_nil, app_cons, app_nil]
                  refine wp_call rfl (allows_con' a b c d s x hk hm) rfl ?_
                  simp only [lv_cons, lv_nil, app_cons, app_nil]
                  refine wp_lt rfl ?_
                  simp only [lv_cons, lv_nil, app_cons, app_nil]
                  refine wp_lt (hadd rfl) ?_
                  simp only [lv_cons, lv_nil, app_cons, app_nil]
                  refine wp_cont rfl rfl (hQ _ ⟨_, n + 1, rfl, by omega, by omega, fun hno => ?_⟩)
                  cases hless : lessF a b c d e f g h with
                  | true => rfl
                  | false =>
                    rw [less_allows a b c d e f g h s x hk hm hless ha] at hno
                    cases hno
                · refine wp_lt (hadd rfl) ?_
                  simp only [lv_cons, lv_nil, app_cons, app_nil]
                  exact wp_cont rfl rfl (hQ _ ⟨false, n + 1, rfl, by omega, by omega, fun h => by cases h⟩)
            · refine wp_lt rfl ?_
              simp only [lv_cons, lv_nil, app_cons, app_nil]
              refine wp_ite rfl (fun hll => ?_) (fun hll => ?_)
              · exact wp_return rfl rfl
              · refine wp_call rfl (less_con' _ _ _ _ _ _ _ _) rfl ?_
                simp only [lv_cons, lv_nil, app_cons, app_nil]
                refine wp_return rfl ?_
                have hll : l = true := by simpa using hll
                rw [hl hll]
        · refine wp_rounds (WaysP (lessF a b c d e f g h)) 25 rfl ⟨false, 0, rfl, rfl, by omega, fun h => by cases h⟩ ?_ (fun es hes => by obtain ⟨l, n, rfl, hn, hn', _⟩ := hes; omega)
          rintro m es Q ⟨l, n, rfl, hn, hn', hl⟩ hQ
          simp only [lv_cons, lv_nil, app_cons, app_nil]
          refine wp_lt (d := .b (decide ((n : Int) < 24))) rfl ?_
          simp only [lv_cons, lv_nil, app_cons, app_nil]
          refine wp_ite (t := decide ((n : Int) < 24)) rfl (fun hlt => ?_) (fun hlt => ?_)
          · have hlt : n < 24 := by have := of_decide_eq_true hlt; omega
            have hadd : ∀ {ρ : List D} {j : Nat}, ρ[j]? = some (.i .u8 (n : Int)) → (Ex.bin .add (.v j) (.c (.i .u8 1))).eval ρ = some (.i .u8 ((n + 1 : Nat) : Int)) := by
              intro ρ j hj
              simp [Ex.eval, hj, binD, wrap8 (show n < 25 by omega)]
            refine wp_ite (t := l) rfl (fun hll => ?_) (fun hll => ?_)
            · refine wp_lt (hadd rfl) ?_
              simp only [lv_cons, lv_nil, app_cons, app_nil]
              exact wp_cont rfl rfl (hQ _ ⟨true, n + 1, rfl, by omega, by omega, fun _ => hl hll⟩)
            · obtain ⟨k, m', s, x, hk, hm, hw⟩ := way_con (z := (n : Int)) (by omega) (by omega)
              refine wp_call rfl hw rfl ?_
              simp only [lv_cons, lv_nil, app_cons, app_nil]
              refine wp_call rfl (allows_con' e f g h s x hk hm) rfl ?_
              simp only [lv_cons, lv_nil, app_cons, app_nil]
              refine wp_ite rfl (fun ha => ?_) (fun ha => ?_)
              · refine wp_call rfl hw rfl ?_
                simp only [lv_cons, lv_nil, app_cons, app_nil]
                refine wp_call rfl (allows_con' a b c d s x hk hm) rfl ?_
                simp only [lv_cons, lv_nil, app_cons, app_nil]
                refine wp_lt rfl ?_
                simp only [lv_cons, lv_nil, app_cons, app_nil]
                refine wp_lt (hadd rfl) ?_
                simp only [lv_cons, lv_nil, app_cons, app_nil]
                refine wp_cont rfl rfl (hQ _ ⟨_, n + 1, rfl, by omega, by omega, fun hno => ?_⟩)
                cases hless : lessF a b c d e f g h with
                | true => rfl
                | false =>
                  rw [less_allows a b c d e f g h s x hk hm hless ha] at hno
                  cases hno
              · refine wp_lt (hadd rfl) ?_
                simp only [lv_cons, lv_nil, app_cons, app_nil]
                exact wp_cont rfl rfl (hQ _ ⟨false, n + 1, rfl, by omega, by omega, fun h => by cases h⟩)
          · refine wp_lt rfl ?_
            simp only [lv_cons, lv_nil, app_cons, app_nil]
            refine wp_ite rfl (fun hll => ?_) (fun hll => ?_)
            · exact wp_return rfl rfl
            · refine wp_call rfl (less_con' _ _ _ _ _ _ _ _) rfl ?_
              simp only [lv_cons, lv_nil, app_cons, app_nil]
              refine wp_return rfl ?_
              have hll : l = true := by simpa using hll
              rw [hl hll]
    · refine wp_call rfl (less_con' a b c d e f g h) rfl ?_
      simp only [lv_cons, lv_nil, app_cons, app_nil]
      refine wp_lt rfl ?_
      simp only [lv_cons, lv_nil, app_cons, app_nil]
      refine wp_ite rfl (fun hpq => ?_) (fun hpq => ?_)
      · refine wp_call rfl (less_con' e f g h a b c d) rfl ?_
        simp only [lv_cons, lv_nil, app_cons, app_nil]
        refine wp_lt rfl ?_
        simp only [lv_cons, lv_nil, app_cons, app_nil]
        refine wp_ite rfl (fun hqp => ?_) (fun hqp => ?_)
        · have heq := less_eq a b c d e f g h (by simpa using hpq) (by simpa using hqp)
          refine wp_lt (d := .b false) (by obtain ⟨rfl, rfl, rfl, rfl⟩ := heq; cases a <;> cases b <;> cases c <;> cases d <;> rfl) ?_
          simp only [lv_cons, lv_nil, app_cons, app_nil]
          refine wp_ite (t := false) rfl (fun h => by cases h) (fun _ => ?_)
          refine wp_rounds (WaysP (lessF a b c d e f g h)) 25 rfl ⟨false, 0, rfl, rfl, by omega, fun h => by cases h⟩ ?_ (fun es hes => by obtain ⟨l, n, rfl, hn, hn', _⟩ := hes; omega)
          rintro m es Q ⟨l, n, rfl, hn, hn', hl⟩ hQ
          simp only [lv_cons, lv_nil, app_cons, app_nil]
          refine wp_lt (d := .b (decide ((n : Int) < 24))) rfl ?_
          simp only [lv_cons, lv_nil, app_cons, app_nil]
          refine wp_ite (t := decide ((n : Int) < 24)) rfl (fun hlt => ?_) (fun hlt => ?_)
          · have hlt : n < 24 := by have := of_decide_eq_true hlt; omega
            have hadd : ∀ {ρ : List D} {j : Nat}, ρ[j]? = some (.i .u8 (n : Int)) → (Ex.bin .add (.v j) (.c (.i .u8 1))).eval ρ = some (.i .u8 ((n + 1 : Nat) : Int)) := by
              intro ρ j hj
              simp [Ex.eval, hj, binD, wrap8 (show n < 25 by omega)]
            refine wp_ite (t := l) rfl (fun hll => ?_) (fun hll => ?_)
            · refine wp_lt (hadd rfl) ?_
              simp only [lv_cons, lv_nil, app_cons, app_nil]
              exact wp_cont rfl rfl (hQ _ ⟨true, n + 1, rfl, by omega, by omega, fun _ => hl hll⟩)
            · obtain ⟨k, m', s, x, hk, hm, hw⟩ := way_con (z := (n : Int)) (by omega) (by omega)
              refine wp_call rfl hw rfl ?_
              simp only [lv_cons, lv_nil, app_cons, app_nil]
              refine wp_call rfl (allows_con' e f g h s x hk hm) rfl ?_
              simp only [lv_cons, lv_nil, app_cons, app_nil]
              refine wp_ite rfl (fun ha => ?_) (fun ha => ?_)
              · refine wp_call rfl hw rfl ?_
                simp only [lv_cons, lv_nil, app_cons, app_nil]
                refine wp_call rfl (allows_con' a b c d s x hk hm) rfl ?_
                simp only [lv_cons, lv_nil, app_cons, app_nil]
                refine wp_lt rfl ?_
                simp only [lv_cons, lv_nil, app_cons, app_nil]
                refine wp_lt (hadd rfl) ?_
                simp only [lv_cons, lv_nil, app_cons, app_nil]
                refine wp_cont rfl rfl (hQ _ ⟨_, n + 1, rfl, by omega, by omega, fun hno => ?_⟩)
                cases hless : lessF a b c d e f g h with
                | true => rfl
                | false =>
                  rw [less_allows a b c d e f g h s x hk hm hless ha] at hno
                  cases hno
              · refine wp_lt (hadd rfl) ?_
                simp only [lv_cons, lv_nil, app_cons, app_nil]
                exact wp_cont rfl rfl (hQ _ ⟨false, n + 1, rfl, by omega, by omega, fun h => by cases h⟩)
          · refine wp_lt rfl ?_
            simp only [lv_cons, lv_nil, app_cons, app_nil]
            refine wp_ite rfl (fun hll => ?_) (fun hll => ?_)
            · exact wp_return rfl rfl
            · refine wp_call rfl (less_con' _ _ _ _ _ _ _ _) rfl ?_
              simp only [lv_cons, lv_nil, app_cons, app_nil]
              refine wp_return rfl ?_
              have hll : l = true := by simpa using hll
              rw [hl hll]
        · refine wp_rounds (WaysP (lessF a b c d e f g h)) 25 rfl ⟨false, 0, rfl, rfl, by omega, fun h => by cases h⟩ ?_ (fun es hes => by obtain ⟨l, n, rfl, hn, hn', _⟩ := hes; omega)
          rintro m es Q ⟨l, n, rfl, hn, hn', hl⟩ hQ
          simp only [lv_cons, lv_nil, app_cons, app_nil]
          refine wp_lt (d := .b (decide ((n : Int) < 24))) rfl ?_
          simp only [lv_cons, lv_nil, app_cons, app_nil]
          refine wp_ite (t := decide ((n : Int) < 24)) rfl (fun hlt => ?_) (fun hlt => ?_)
          · have hlt : n < 24 := by have := of_decide_eq_true hlt; omega
            have hadd : ∀ {ρ : List D} {j : Nat}, ρ[j]? = some (.i .u8 (n : Int)) → (Ex.bin .add (.v j) (.c (.i .u8 1))).eval ρ = some (.i .u8 ((n + 1 : Nat) : Int)) := by
              intro ρ j hj
              simp [Ex.eval, hj, binD, wrap8 (show n < 25 by omega)]
            refine wp_ite (t := l) rfl (fun hll => ?_) (fun hll => ?_)
            · refine wp_lt (hadd rfl) ?_
              simp only [lv_cons, lv_nil, app_cons, app_nil]
              exact wp_cont rfl rfl (hQ _ ⟨true, n + 1, rfl, by omega, by omega, fun _ => hl hll⟩)
            · obtain ⟨k, m', s, x, hk, hm, hw⟩ := way_con (z := (n : Int)) (by omega) (by omega)
              refine wp_call rfl hw rfl ?_
              simp only [lv_cons, lv_nil, app_cons, app_nil]
              refine wp_call rfl (allows_con' e f g h s x hk hm) rfl ?_
              simp only [lv_cons, lv_nil, app_cons, app_nil]
              refine wp_ite rfl (fun ha => ?_) (fun ha => ?_)
              · refine wp_call rfl hw rfl ?_
                simp only [lv_cons, lv_nil, app_cons, app_nil]
                refine wp_call rfl (allows_con' a b c d s x hk hm) rfl ?_
                simp only [lv_cons, lv_nil, app_cons, app_nil]
                refine wp_lt rfl ?_
                simp only [lv_cons, lv_nil, app_cons, app_nil]
                refine wp_lt (hadd rfl) ?_
                simp only [lv_cons, lv_nil, app_cons, app_nil]
                refine wp_cont rfl rfl (hQ _ ⟨_, n + 1, rfl, by omega, by omega, fun hno => ?_⟩)
                cases hless : lessF a b c d e f g h with
                | true => rfl
                | false =>
                  rw [less_allows a b c d e f g h s x hk hm hless ha] at hno
                  cases hno
              · refine wp_lt (hadd rfl) ?_
                simp only [lv_cons, lv_nil, app_cons, app_nil]
                exact wp_cont rfl rfl (hQ _ ⟨false, n + 1, rfl, by omega, by omega, fun h => by cases h⟩)
          · refine wp_lt rfl ?_
            simp only [lv_cons, lv_nil, app_cons, app_nil]
            refine wp_ite rfl (fun hll => ?_) (fun hll => ?_)
            · exact wp_return rfl rfl
            · refine wp_call rfl (less_con' _ _ _ _ _ _ _ _) rfl ?_
              simp only [lv_cons, lv_nil, app_cons, app_nil]
              refine wp_return rfl ?_
              have hll : l = true := by simpa using hll
              rw [hl hll]
      · refine wp_rounds (WaysP (lessF a b c d e f g h)) 25 rfl ⟨false, 0, rfl, rfl, by omega, fun h => by cases h⟩ ?_ (fun es hes => by obtain ⟨l, n, rfl, hn, hn', _⟩ := hes; omega)
        rintro m es Q ⟨l, n, rfl, hn, hn', hl⟩ hQ
        simp only [lv_cons, lv_nil, app_cons, app_nil]
        refine wp_lt (d := .b (decide ((n : Int) < 24))) rfl ?_
        simp only [lv_cons, lv_nil, app_cons, app_nil]
        refine wp_ite (t := decide ((n : Int) < 24)) rfl (fun hlt => ?_) (fun hlt => ?_)
        · have hlt : n < 24 := by have := of_decide_eq_true hlt; omega
          have hadd : ∀ {ρ : List D} {j : Nat}, ρ[j]? = some (.i .u8 (n : Int)) → (Ex.bin .add (.v j) (.c (.i .u8 1))).eval ρ = some (.i .u8 ((n + 1 : Nat) : Int)) := by
            intro ρ j hj
            simp [Ex.eval, hj, binD, wrap8 (show n < 25 by omega)]
          refine wp_ite (t := l) rfl (fun hll => ?_) (fun hll => ?_)
          · refine wp_lt (hadd rfl) ?_
            simp only [lv_cons, lv_nil, app_cons, app_nil]
            exact wp_cont rfl rfl (hQ _ ⟨true, n + 1, rfl, by omega, by omega, fun _ => hl hll⟩)
          · obtain ⟨k, m', s, x, hk, hm, hw⟩ := way_con (z := (n : Int)) (by omega) (by omega)
            refine wp_call rfl hw rfl ?_
            simp only [lv_cons, lv_nil, app_cons, app_nil]
            refine wp_call rfl (allows_con' e f g h s x hk hm) rfl ?_
            simp only [lv_cons, lv_nil, app_cons, app_nil]
            refine wp_ite rfl (fun ha => ?_) (fun ha => ?_)
            · refine wp_call rfl hw rfl ?_
              simp only [lv_cons, lv_nil, app_cons, app_nil]
              refine wp_call rfl (allows_con' a b c d s x hk hm) rfl ?_
              simp only [lv_cons, lv_nil, app_cons, app_nil]
              refine wp_lt rfl ?_
              simp only [lv_cons, lv_nil, app_cons, app_nil]
              refine wp_lt (hadd rfl) ?_
              simp only [lv_cons, lv_nil, app_cons, app_nil]
              refine wp_cont rfl rfl (hQ _ ⟨_, n + 1, rfl, by omega, by omega, fun hno => ?_⟩)
              cases hless : lessF a b c d e f g h with
              | true => rfl
              | false =>
                rw [less_allows a b c d e f g h s x hk hm hless ha] at hno
                cases hno
            · refine wp_lt (hadd rfl) ?_
              simp only [lv_cons, lv_nil, app_cons, app_nil]
              exact wp_cont rfl rfl (hQ _ ⟨false, n + 1, rfl, by omega, by omega, fun h => by cases h⟩)
        · refine wp_lt rfl ?_
          simp only [lv_cons, lv_nil, app_cons, app_nil]
          refine wp_ite rfl (fun hll => ?_) (fun hll => ?_)
          · exact wp_return rfl rfl
          · refine wp_call rfl (less_con' _ _ _ _ _ _ _ _) rfl ?_
            simp only [lv_cons, lv_nil, app_cons, app_nil]
            refine wp_return rfl ?_
            have hll : l = true := by simpa using hll
            rw [hl hll]
  · refine wp_call rfl (less_con' a b c d e f g h) rfl ?_
    simp only [lv_cons, lv_nil, app_cons, app_nil]
    refine wp_lt rfl ?_
    simp only [lv_cons, lv_nil, app_cons, app_nil]
    refine wp_ite rfl (fun hpq => ?_) (fun hpq => ?_)
    · refine wp_call rfl (less_con' e f g h a b c d) rfl ?_
      simp only [lv_cons, lv_nil, app_cons, app_nil]
      refine wp_lt rfl ?_
      simp only [lv_cons, lv_nil, app_cons, app_nil]
      refine wp_ite rfl (fun hqp => ?_) (fun hqp => ?_)
      · have heq := less_eq a b c d e f g h (by simpa using hpq) (by simpa using hqp)
        refine wp_lt (d := .b false) (by obtain ⟨rfl, rfl, rfl, rfl⟩ := heq; cases a <;> cases b <;> cases c <;> cases d <;> rfl) ?_
        simp only [lv_cons, lv_nil, app_cons, app_nil]
        refine wp_ite (t := false) rfl (fun h => by cases h) (fun _ => ?_)
        refine wp_rounds (WaysP (lessF a b c d e f g h)) 25 rfl ⟨false, 0, rfl, rfl, by omega, fun h => by cases h⟩ ?_ (fun es hes => by obtain ⟨l, n, rfl, hn, hn', _⟩ := hes; omega)
        rintro m es Q ⟨l, n, rfl, hn, hn', hl⟩ hQ
        simp only [lv_cons, lv_nil, app_cons, app_nil]
        refine wp_lt (d := .b (decide ((n : Int) < 24))) rfl ?_
        simp only [lv_cons, lv_nil, app_cons, app_nil]
        refine wp_ite (t := decide ((n : Int) < 24)) rfl (fun hlt => ?_) (fun hlt => ?_)
        · have hlt : n < 24 := by have := of_decide_eq_true hlt; omega
          have hadd : ∀ {ρ : List D} {j : Nat}, ρ[j]? = some (.i .u8 (n : Int)) → (Ex.bin .add (.v j) (.c (.i .u8 1))).eval ρ = some (.i .u8 ((n + 1 : Nat) : Int)) := by
            intro ρ j hj
            simp [Ex.eval, hj, binD, wrap8 (show n < 25 by omega)]
          refine wp_ite (t := l) rfl (fun hll => ?_) (fun hll => ?_)
          · refine wp_lt (hadd rfl) ?_
            simp only [lv_cons, lv_nil, app_cons, app_nil]
            exact wp_cont rfl rfl (hQ _ ⟨true, n + 1, rfl, by omega, by omega, fun _ => hl hll⟩)
          · obtain ⟨k, m', s, x, hk, hm, hw⟩ := way_con (z := (n : Int)) (by omega) (by omega)
            refine wp_call rfl hw rfl ?_
            simp only [lv_cons, lv_nil, app_cons, app_nil]
            refine wp_call rfl (allows_con' e f g h s x hk hm) rfl ?_
            simp only [lv_cons, lv_nil, app_cons, app_nil]
            refine wp_ite rfl (fun ha => ?_) (fun ha => ?_)
            · refine wp_call rfl hw rfl ?_
              simp only [lv_cons, lv_nil, app_cons, app_nil]
              refine wp_call rfl (allows_con' a b c d s x hk hm) rfl ?_
              simp only [lv_cons, lv_nil, app_cons, app_nil]
              refine wp_lt rfl ?_
              simp only [lv_cons, lv_nil, app_cons, app_nil]
              refine wp_lt (hadd rfl) ?_
              simp only [lv_cons, lv_nil, app_cons, app_nil]
              refine wp_cont rfl rfl (hQ _ ⟨_, n + 1, rfl, by omega, by omega, fun hno => ?_⟩)
              cases hless : lessF a b c d e f g h with
              | true => rfl
              | false =>
                rw [less_allows a b c d e f g h s x hk hm hless ha] at hno
                cases hno
            · refine wp_lt (hadd rfl) ?_
              simp only [lv_cons, lv_nil, app_cons, app_nil]
              exact wp_cont rfl rfl (hQ _ ⟨false, n + 1, rfl, by omega, by omega, fun h => by cases h⟩)
        · refine wp_lt rfl ?_
          simp only [lv_cons, lv_nil, app_cons, app_nil]
          refine wp_ite rfl (fun hll => ?_) (fun hll => ?_)
          · exact wp_return rfl rfl
          · refine wp_call rfl (less_con' _ _ _ _ _ _ _ _) rfl ?_
            simp only [lv_cons, lv_nil, app_cons, app_nil]
            refine wp_return rfl ?_
            have hll : l = true := by simpa using hll
            rw [hl hll]
      · refine wp_rounds (WaysP (lessF a b c d e f g h)) 25 rfl ⟨false, 0, rfl, rfl, by omega, fun h => by cases h⟩ ?_ (fun es hes => by obtain ⟨l, n, rfl, hn, hn', _⟩ := hes; omega)
        rintro m es Q ⟨l, n, rfl, hn, hn', hl⟩ hQ
        simp only [lv_cons, lv_nil, app_cons, app_nil]
        refine wp_lt (d := .b (decide ((n : Int) < 24))) rfl ?_
        simp only [lv_cons, lv_nil, app_cons, app_nil]
        refine wp_ite (t := decide ((n : Int) < 24)) rfl (fun hlt => ?_) (fun hlt => ?_)
        · have hlt : n < 24 := by have := of_decide_eq_true hlt; omega
          have hadd : ∀ {ρ : List D} {j : Nat}, ρ[j]? = some (.i .u8 (n : Int)) → (Ex.bin .add (.v j) (.c (.i .u8 1))).eval ρ = some (.i .u8 ((n + 1 : Nat) : Int)) := by
            intro ρ j hj
            simp [Ex.eval, hj, binD, wrap8 (show n < 25 by omega)]
          refine wp_ite (t := l) rfl (fun hll => ?_) (fun hll => ?_)
          · refine wp_lt (hadd rfl) ?_
            simp only [lv_cons, lv_nil, app_cons, app_nil]
            exact wp_cont rfl rfl (hQ _ ⟨true, n + 1, rfl, by omega, by omega, fun _ => hl hll⟩)
          · obtain ⟨k, m', s, x, hk, hm, hw⟩ := way_con (z := (n : Int)) (by omega) (by omega)
            refine wp_call rfl hw rfl ?_
            simp only [lv_cons, lv_nil, app_cons, app_nil]
            refine wp_call rfl (allows_con' e f g h s x hk hm) rfl ?_
            simp only [lv_cons, lv_nil, app_cons, app_nil]
            refine wp_ite rfl (fun ha => ?_) (fun ha => ?_)
            · refine wp_call rfl hw rfl ?_
              simp only [lv_cons, lv_nil, app_cons, app_nil]
              refine wp_call rfl (allows_con' a b c d s x hk hm) rfl ?_
              simp only [lv_cons, lv_nil, app_cons, app_nil]
              refine wp_lt rfl ?_
              simp only [lv_cons, lv_nil, app_cons, app_nil]
              refine wp_lt (hadd rfl) ?_
              simp only [lv_cons, lv_nil, app_cons, app_nil]
              refine wp_cont rfl rfl (hQ _ ⟨_, n + 1, rfl, by omega, by omega, fun hno => ?_⟩)
              cases hless : lessF a b c d e f g h with
              | true => rfl
              | false =>
                rw [less_allows a b c d e f g h s x hk hm hless ha] at hno
                cases hno
            · refine wp_lt (hadd rfl) ?_
              simp only [lv_cons, lv_nil, app_cons, app_nil]
              exact wp_cont rfl rfl (hQ _ ⟨false, n + 1, rfl, by omega, by omega, fun h => by cases h⟩)
        · refine wp_lt rfl ?_
          simp only [lv_cons, lv_nil, app_cons, app_nil]
          refine wp_ite rfl (fun hll => ?_) (fun hll => ?_)
          · exact wp_return rfl rfl
          · refine wp_call rfl (less_con' _ _ _ _ _ _ _ _) rfl ?_
            simp only [lv_cons, lv_nil, app_cons, app_nil]
            refine wp_return rfl ?_
            have hll : l = true := by simpa using hll
            rw [hl hll]
    · refine wp_rounds (WaysP (lessF a b c d e f g h)) 25 rfl ⟨false, 0, rfl, rfl, by omega, fun h => by cases h⟩ ?_ (fun es hes => by obtain ⟨l, n, rfl, hn, hn', _⟩ := hes; omega)
      rintro m es Q ⟨l, n, rfl, hn, hn', hl⟩ hQ
      simp only [lv_cons, lv_nil, app_cons, app_nil]
      refine wp_lt (d := .b (decide ((n : Int) < 24))) rfl ?_
      simp only [lv_cons, lv_nil, app_cons, app_nil]
      refine wp_ite (t := decide ((n : Int) < 24)) rfl (fun hlt => ?_) (fun hlt => ?_)
      · have hlt : n < 24 := by have := of_decide_eq_true hlt; omega
        have hadd : ∀ {ρ : List D} {j : Nat}, ρ[j]? = some (.i .u8 (n : Int)) → (Ex.bin .add (.v j) (.c (.i .u8 1))).eval ρ = some (.i .u8 ((n + 1 : Nat) : Int)) := by
          intro ρ j hj
          simp [Ex.eval, hj, binD, wrap8 (show n < 25 by omega)]
        refine wp_ite (t := l) rfl (fun hll => ?_) (fun hll => ?_)
        · refine wp_lt (hadd rfl) ?_
          simp only [lv_cons, lv_nil, app_cons, app_nil]
          exact wp_cont rfl rfl (hQ _ ⟨true, n + 1, rfl, by omega, by omega, fun _ => hl hll⟩)
        · obtain ⟨k, m', s, x, hk, hm, hw⟩ := way_con (z := (n : Int)) (by omega) (by omega)
          refine wp_call rfl hw rfl ?_
          simp only [lv_cons, lv_nil, app_cons, app_nil]
          refine wp_call rfl (allows_con' e f g h s x hk hm) rfl ?_
          simp only [lv_cons, lv_nil, app_cons, app_nil]
          refine wp_ite rfl (fun ha => ?_) (fun ha => ?_)
          · refine wp_call rfl hw rfl ?_
            simp only [lv_cons, lv_nil, app_cons, app_nil]
            refine wp_call rfl (allows_con' a b c d s x hk hm) rfl ?_
            simp only [lv_cons, lv_nil, app_cons, app_nil]
            refine wp_lt rfl ?_
            simp only [lv_cons, lv_nil, app_cons, app_nil]
            refine wp_lt (hadd rfl) ?_
            simp only [lv_cons, lv_nil, app_cons, app_nil]
            refine wp_cont rfl rfl (hQ _ ⟨_, n + 1, rfl, by omega, by omega, fun hno => ?_⟩)
            cases hless : lessF a b c d e f g h with
            | true => rfl
            | false =>
              rw [less_allows a b c d e f g h s x hk hm hless ha] at hno
              cases hno
          · refine wp_lt (hadd rfl) ?_
            simp only [lv_cons, lv_nil, app_cons, app_nil]
            exact wp_cont rfl rfl (hQ _ ⟨false, n + 1, rfl, by omega, by omega, fun h => by cases h⟩)
      · refine wp_lt rfl ?_
        simp only [lv_cons, lv_nil, app_cons, app_nil]
        refine wp_ite rfl (fun hll => ?_) (fun hll => ?_)
        · exact wp_return rfl rfl
        · refine wp_call rfl (less_con' _ _ _ _ _ _ _ _) rfl ?_
          simp only [lv_cons, lv_nil, app_cons, app_nil]
          refine wp_return rfl ?_
          have hll : l = true := by simpa using hll
          rw [hl hll]
end Go.Proofs.YtkgomfkjeonmfaaDoor.Sx
