/-
  Layer 8: PermDecides.
-/
import Derived.Test.YtkgomfkjeonmfaaDoorPerml
namespace Go.Proofs.YtkgomfkjeonmfaaDoor.Sx
open Go
set_option maxRecDepth 100000
set_option linter.unusedVariables false
set_option linter.unusedSimpArgs false

theorem allows_more (a b c d : Bool) {k m : Int} (s x : Bool) (hk : k = 0 ∨ k = 1 ∨ k = 2) (hm : m = 0 ∨ m = 1) (h : allowsF a b c d k m s x = true) : allowsF a b c d k m true true = true := by
  revert h; rcases hk with rfl | rfl | rfl <;> rcases hm with rfl | rfl <;> revert a b c d s x <;> decide
theorem allows_fetch (a b c d : Bool) {m : Int} (s x : Bool) (hm : m = 0 ∨ m = 1) (h : allowsF a b c d 0 m s x = true) : allowsF a b c d 0 (1 - m) s x = false := by
  revert h; rcases hm with rfl | rfl <;> revert a b c d s x <;> decide

/-- numbers, one after the other, and a truth value beside -/
def NumP (B : Nat) (m : Nat) : Lp := fun ds => ∃ (l : Bool) (n : Nat), ds = [.b l, .i .u8 n] ∧ n + m = B + 1 ∧ n ≤ B
theorem add_eval {ρ : List D} {j n : Nat} (h : n < 25) (hj : ρ[j]? = some (.i .u8 (n : Int))) : (Ex.bin .add (.v j) (.c (.i .u8 1))).eval ρ = some (.i .u8 ((n + 1 : Nat) : Int)) := by
  simp [Ex.eval, hj, binD, wrap8 h]

theorem PermDecides_con {y : Int} (h0 : 0 ≤ y) (h1 : y < 256) : Cn gPerm 4 [b8 y] [bb true] := by
  refine con rfl rfl atlaslaw08_PermDecides_c atlaslaw08_PermDecides_p rfl ?_
  obtain ⟨a, b, c, d, hn⟩ := number_con h0 h1
  unfold atlaslaw08_PermDecides_ir
  refine wp_call rfl awake08_con rfl ?_
  simp only [lv_cons, lv_nil, app_cons, app_nil]
  refine wp_lt rfl ?_
  simp only [lv_cons, lv_nil, app_cons, app_nil]
  refine wp_ite (t := false) rfl (fun h => by cases h) (fun _ => ?_)
  refine wp_call rfl hn rfl ?_
  simp only [lv_cons, lv_nil, app_cons, app_nil]
  refine wp_rounds (NumP 24) 25 rfl ⟨_, 0, rfl, by omega, by omega⟩ ?_ (fun es hes => by obtain ⟨_, i, rfl, h1, h2⟩ := hes; omega)
  rintro m0 es Q ⟨l, n, rfl, hn0, hn0'⟩ hQ
  simp only [lv_cons, lv_nil, app_cons, app_nil]
  refine wp_lt (d := .b (decide ((n : Int) < 24))) rfl ?_
  simp only [lv_cons, lv_nil, app_cons, app_nil]
  refine wp_ite (t := decide ((n : Int) < 24)) rfl (fun hlt => ?_) (fun hlt => ?_)
  · have hlt : n < 24 := by have := of_decide_eq_true hlt; omega
    obtain ⟨k, m, s, x, hk, hm, hw⟩ := way_con (z := (n : Int)) (by omega) (by omega)
    refine wp_call rfl hw rfl ?_
    simp only [lv_cons, lv_nil, app_cons, app_nil]
    refine wp_lt (d := .i .i64 (1 - m)) (by rcases hm with rfl | rfl <;> rfl) ?_
    simp only [lv_cons, lv_nil, app_cons, app_nil]
    refine wp_call rfl (allows_con' a b c d s x hk hm) rfl ?_
    simp only [lv_cons, lv_nil, app_cons, app_nil]
    refine wp_ite rfl (fun h2 => ?_) (fun h2 => ?_)
    · refine wp_call rfl (allows_con' a b c d true true hk hm) rfl ?_
      simp only [lv_cons, lv_nil, app_cons, app_nil]
      refine wp_lt rfl ?_
      simp only [lv_cons, lv_nil, app_cons, app_nil]
      refine wp_ite rfl (fun h3 => ?_) (fun h3 => ?_)
      · rw [allows_more a b c d s x hk hm h2] at h3
        cases h3
      · refine wp_lt rfl ?_
        simp only [lv_cons, lv_nil, app_cons, app_nil]
        refine wp_ite rfl (fun hk0 => ?_) (fun hk0 => ?_)
        · refine wp_call rfl (allows_con' a b c d s x hk hm) rfl ?_
          simp only [lv_cons, lv_nil, app_cons, app_nil]
          refine wp_ite rfl (fun ha => ?_) (fun ha => ?_)
          · refine wp_call rfl (allows_con' a b c d s x hk (m := 1 - m) (by omega)) rfl ?_
            simp only [lv_cons, lv_nil, app_cons, app_nil]
            refine wp_ite rfl (fun ho => ?_) (fun ho => ?_)
            · have hk0 : k = 0 := by simpa using hk0
              subst hk0
              rw [allows_fetch a b c d s x hm ha] at ho
              cases ho
            · refine wp_rounds (NumP 16) 17 rfl ⟨_, 0, rfl, by omega, by omega⟩ ?_ (fun es hes => by obtain ⟨_, i, rfl, h1, h2⟩ := hes; omega)
              rintro m1 es1 Q1 ⟨l1, n1, rfl, hn1, hn1'⟩ hQ1
              simp only [lv_cons, lv_nil, app_cons, app_nil]
              refine wp_lt (d := .b (decide ((n1 : Int) < 16))) rfl ?_
              simp only [lv_cons, lv_nil, app_cons, app_nil]
              refine wp_ite (t := decide ((n1 : Int) < 16)) rfl (fun hlt1 => ?_) (fun hlt1 => ?_)
              · have hlt1 : n1 < 16 := by have := of_decide_eq_true hlt1; omega
                obtain ⟨e, f, g, h, hnum⟩ := number_con (z := (n1 : Int)) (by omega) (by omega)
                refine wp_call rfl hnum rfl ?_
                simp only [lv_cons, lv_nil, app_cons, app_nil]
                refine wp_call rfl (less_con' a b c d e f g h) rfl ?_
                simp only [lv_cons, lv_nil, app_cons, app_nil]
                refine wp_lt rfl ?_
                simp only [lv_cons, lv_nil, app_cons, app_nil]
                refine wp_ite rfl (fun hl => ?_) (fun hl => ?_)
                · refine wp_call rfl hnum rfl ?_
                  simp only [lv_cons, lv_nil, app_cons, app_nil]
                  refine wp_call rfl (allows_con' e f g h s x hk hm) rfl ?_
                  simp only [lv_cons, lv_nil, app_cons, app_nil]
                  refine wp_ite rfl (fun ha => ?_) (fun ha => ?_)
                  · refine wp_call rfl (allows_con' a b c d s x hk hm) rfl ?_
                    simp only [lv_cons, lv_nil, app_cons, app_nil]
                    refine wp_lt rfl ?_
                    simp only [lv_cons, lv_nil, app_cons, app_nil]
                    refine wp_ite rfl (fun hx => ?_) (fun hx => ?_)
                    · rw [less_allows a b c d e f g h s x hk hm (by simpa using hl) ha] at hx
                      cases hx
                    · refine wp_lt (add_eval (by omega) rfl) ?_
                      simp only [lv_cons, lv_nil, app_cons, app_nil]
                      exact wp_cont rfl rfl (hQ1 _ ⟨_, n1 + 1, rfl, by omega, by omega⟩)
                  · refine wp_lt (add_eval (by omega) rfl) ?_
                    simp only [lv_cons, lv_nil, app_cons, app_nil]
                    exact wp_cont rfl rfl (hQ1 _ ⟨_, n1 + 1, rfl, by omega, by omega⟩)
                · refine wp_lt (add_eval (by omega) rfl) ?_
                  simp only [lv_cons, lv_nil, app_cons, app_nil]
                  exact wp_cont rfl rfl (hQ1 _ ⟨_, n1 + 1, rfl, by omega, by omega⟩)
              · refine wp_lt (add_eval (n := n) (by omega) rfl) ?_
                simp only [lv_cons, lv_nil, app_cons, app_nil]
                exact wp_cont rfl rfl (hQ _ ⟨_, n + 1, rfl, by omega, by omega⟩)
          · refine wp_rounds (NumP 16) 17 rfl ⟨_, 0, rfl, by omega, by omega⟩ ?_ (fun es hes => by obtain ⟨_, i, rfl, h1, h2⟩ := hes; omega)
            rintro m1 es1 Q1 ⟨l1, n1, rfl, hn1, hn1'⟩ hQ1
            simp only [lv_cons, lv_nil, app_cons, app_nil]
            refine wp_lt (d := .b (decide ((n1 : Int) < 16))) rfl ?_
            simp only [lv_cons, lv_nil, app_cons, app_nil]
            refine wp_ite (t := decide ((n1 : Int) < 16)) rfl (fun hlt1 => ?_) (fun hlt1 => ?_)
            · have hlt1 : n1 < 16 := by have := of_decide_eq_true hlt1; omega
              obtain ⟨e, f, g, h, hnum⟩ := number_con (z := (n1 : Int)) (by omega) (by omega)
              refine wp_call rfl hnum rfl ?_
              simp only [lv_cons, lv_nil, app_cons, app_nil]
              refine wp_call rfl (less_con' a b c d e f g h) rfl ?_
              simp only [lv_cons, lv_nil, app_cons, app_nil]
              refine wp_lt rfl ?_
              simp only [lv_cons, lv_nil, app_cons, app_nil]
              refine wp_ite rfl (fun hl => ?_) (fun hl => ?_)
              · refine wp_call rfl hnum rfl ?_
                simp only [lv_cons, lv_nil, app_cons, app_nil]
                refine wp_call rfl (allows_con' e f g h s x hk hm) rfl ?_
                simp only [lv_cons, lv_nil, app_cons, app_nil]
                refine wp_ite rfl (fun ha => ?_) (fun ha => ?_)
                · refine wp_call rfl (allows_con' a b c d s x hk hm) rfl ?_
                  simp only [lv_cons, lv_nil, app_cons, app_nil]
                  refine wp_lt rfl ?_
                  simp only [lv_cons, lv_nil, app_cons, app_nil]
                  refine wp_ite rfl (fun hx => ?_) (fun hx => ?_)
                  · rw [less_allows a b c d e f g h s x hk hm (by simpa using hl) ha] at hx
                    cases hx
                  · refine wp_lt (add_eval (by omega) rfl) ?_
                    simp only [lv_cons, lv_nil, app_cons, app_nil]
                    exact wp_cont rfl rfl (hQ1 _ ⟨_, n1 + 1, rfl, by omega, by omega⟩)
                · refine wp_lt (add_eval (by omega) rfl) ?_
                  simp only [lv_cons, lv_nil, app_cons, app_nil]
                  exact wp_cont rfl rfl (hQ1 _ ⟨_, n1 + 1, rfl, by omega, by omega⟩)
              · refine wp_lt (add_eval (by omega) rfl) ?_
                simp only [lv_cons, lv_nil, app_cons, app_nil]
                exact wp_cont rfl rfl (hQ1 _ ⟨_, n1 + 1, rfl, by omega, by omega⟩)
            · refine wp_lt (add_eval (n := n) (by omega) rfl) ?_
              simp only [lv_cons, lv_nil, app_cons, app_nil]
              exact wp_cont rfl rfl (hQ _ ⟨_, n + 1, rfl, by omega, by omega⟩)
        · refine wp_rounds (NumP 16) 17 rfl ⟨_, 0, rfl, by omega, by omega⟩ ?_ (fun es hes => by obtain ⟨_, i, rfl, h1, h2⟩ := hes; omega)
          rintro m1 es1 Q1 ⟨l1, n1, rfl, hn1, hn1'⟩ hQ1
          simp only [lv_cons, lv_nil, app_cons, app_nil]
          refine wp_lt (d := .b (decide ((n1 : Int) < 16))) rfl ?_
          simp only [lv_cons, lv_nil, app_cons, app_nil]
          refine wp_ite (t := decide ((n1 : Int) < 16)) rfl (fun hlt1 => ?_) (fun hlt1 => ?_)
          · have hlt1 : n1 < 16 := by have := of_decide_eq_true hlt1; omega
            obtain ⟨e, f, g, h, hnum⟩ := number_con (z := (n1 : Int)) (by omega) (by omega)
            refine wp_call rfl hnum rfl ?_
            simp only [lv_cons, lv_nil, app_cons, app_nil]
            refine wp_call rfl (less_con' a b c d e f g h) rfl ?_
            simp only [lv_cons, lv_nil, app_cons, app_nil]
            refine wp_lt rfl ?_
            simp only [lv_cons, lv_nil, app_cons, app_nil]
            refine wp_ite rfl (fun hl => ?_) (fun hl => ?_)
            · refine wp_call rfl hnum rfl ?_
              simp only [lv_cons, lv_nil, app_cons, app_nil]
              refine wp_call rfl (allows_con' e f g h s x hk hm) rfl ?_
              simp only [lv_cons, lv_nil, app_cons, app_nil]
              refine wp_ite rfl (fun ha => ?_) (fun ha => ?_)
              · refine wp_call rfl (allows_con' a b c d s x hk hm) rfl ?_
                simp only [lv_cons, lv_nil, app_cons, app_nil]
                refine wp_lt rfl ?_
                simp only [lv_cons, lv_nil, app_cons, app_nil]
                refine wp_ite rfl (fun hx => ?_) (fun hx => ?_)
                · rw [less_allows a b c d e f g h s x hk hm (by simpa using hl) ha] at hx
                  cases hx
                · refine wp_lt (add_eval (by omega) rfl) ?_
                  simp only [lv_cons, lv_nil, app_cons, app_nil]
                  exact wp_cont rfl rfl (hQ1 _ ⟨_, n1 + 1, rfl, by omega, by omega⟩)
              · refine wp_lt (add_eval (by omega) rfl) ?_
                simp only [lv_cons, lv_nil, app_cons, app_nil]
                exact wp_cont rfl rfl (hQ1 _ ⟨_, n1 + 1, rfl, by omega, by omega⟩)
            · refine wp_lt (add_eval (by omega) rfl) ?_
              simp only [lv_cons, lv_nil, app_cons, app_nil]
              exact wp_cont rfl rfl (hQ1 _ ⟨_, n1 + 1, rfl, by omega, by omega⟩)
          · refine wp_lt (add_eval (n := n) (by omega) rfl) ?_
            simp only [lv_cons, lv_nil, app_cons, app_nil]
            exact wp_cont rfl rfl (hQ _ ⟨_, n + 1, rfl, by omega, by omega⟩)
    · refine wp_lt rfl ?_
      simp only [lv_cons, lv_nil, app_cons, app_nil]
      refine wp_ite rfl (fun hk0 => ?_) (fun hk0 => ?_)
      · refine wp_call rfl (allows_con' a b c d s x hk hm) rfl ?_
        simp only [lv_cons, lv_nil, app_cons, app_nil]
        refine wp_ite rfl (fun ha => ?_) (fun ha => ?_)
        · refine wp_call rfl (allows_con' a b c d s x hk (m := 1 - m) (by omega)) rfl ?_
          simp only [lv_cons, lv_nil, app_cons, app_nil]
          refine wp_ite rfl (fun ho => ?_) (fun ho => ?_)
          · have hk0 : k = 0 := by simpa using hk0
            subst hk0
            rw [allows_fetch a b c d s x hm ha] at ho
            cases ho
          · refine wp_rounds (NumP 16) 17 rfl ⟨_, 0, rfl, by omega, by omega⟩ ?_ (fun es hes => by obtain ⟨_, i, rfl, h1, h2⟩ := hes; omega)
            rintro m1 es1 Q1 ⟨l1, n1, rfl, hn1, hn1'⟩ hQ1
            simp only [lv_cons, lv_nil, app_cons, app_nil]
            refine wp_lt (d := .b (decide ((n1 : Int) < 16))) rfl ?_
            simp only [lv_cons, lv_nil, app_cons, app_nil]
            refine wp_ite (t := decide ((n1 : Int) < 16)) rfl (fun hlt1 => ?_) (fun hlt1 => ?_)
            · have hlt1 : n1 < 16 := by have := of_decide_eq_true hlt1; omega
              obtain ⟨e, f, g, h, hnum⟩ := number_con (z := (n1 : Int)) (by omega) (by omega)
              refine wp_call rfl hnum rfl ?_
              simp only [lv_cons, lv_nil, app_cons, app_nil]
              refine wp_call rfl (less_con' a b c d e f g h) rfl ?_
              simp only [lv_cons, lv_nil, app_cons, app_nil]
              refine wp_lt rfl ?_
              simp only [lv_cons, lv_nil, app_cons, app_nil]
              refine wp_ite rfl (fun hl => ?_) (fun hl => ?_)
              · refine wp_call rfl hnum rfl ?_
                simp only [lv_cons, lv_nil, app_cons, app_nil]
                refine wp_call rfl (allows_con' e f g h s x hk hm) rfl ?_
                simp only [lv_cons, lv_nil, app_cons, app_nil]
                refine wp_ite rfl (fun ha => ?_) (fun ha => ?_)
                · refine wp_call rfl (allows_con' a b c d s x hk hm) rfl ?_
                  simp only [lv_cons, lv_nil, app_cons, app_nil]
                  refine wp_lt rfl ?_
                  simp only [lv_cons, lv_nil, app_cons, app_nil]
                  refine wp_ite rfl (fun hx => ?_) (fun hx => ?_)
                  · rw [less_allows a b c d e f g h s x hk hm (by simpa using hl) ha] at hx
                    cases hx
                  · refine wp_lt (add_eval (by omega) rfl) ?_
                    simp only [lv_cons, lv_nil, app_cons, app_nil]
                    exact wp_cont rfl rfl (hQ1 _ ⟨_, n1 + 1, rfl, by omega, by omega⟩)
                · refine wp_lt (add_eval (by omega) rfl) ?_
                  simp only [lv_cons, lv_nil, app_cons, app_nil]
                  exact wp_cont rfl rfl (hQ1 _ ⟨_, n1 + 1, rfl, by omega, by omega⟩)
              · refine wp_lt (add_eval (by omega) rfl) ?_
                simp only [lv_cons, lv_nil, app_cons, app_nil]
                exact wp_cont rfl rfl (hQ1 _ ⟨_, n1 + 1, rfl, by omega, by omega⟩)
            · refine wp_lt (add_eval (n := n) (by omega) rfl) ?_
              simp only [lv_cons, lv_nil, app_cons, app_nil]
              exact wp_cont rfl rfl (hQ _ ⟨_, n + 1, rfl, by omega, by omega⟩)
        · refine wp_rounds (NumP 16) 17 rfl ⟨_, 0, rfl, by omega, by omega⟩ ?_ (fun es hes => by obtain ⟨_, i, rfl, h1, h2⟩ := hes; omega)
          rintro m1 es1 Q1 ⟨l1, n1, rfl, hn1, hn1'⟩ hQ1
          simp only [lv_cons, lv_nil, app_cons, app_nil]
          refine wp_lt (d := .b (decide ((n1 : Int) < 16))) rfl ?_
          simp only [lv_cons, lv_nil, app_cons, app_nil]
          refine wp_ite (t := decide ((n1 : Int) < 16)) rfl (fun hlt1 => ?_) (fun hlt1 => ?_)
          · have hlt1 : n1 < 16 := by have := of_decide_eq_true hlt1; omega
            obtain ⟨e, f, g, h, hnum⟩ := number_con (z := (n1 : Int)) (by omega) (by omega)
            refine wp_call rfl hnum rfl ?_
            simp only [lv_cons, lv_nil, app_cons, app_nil]
            refine wp_call rfl (less_con' a b c d e f g h) rfl ?_
            simp only [lv_cons, lv_nil, app_cons, app_nil]
            refine wp_lt rfl ?_
            simp only [lv_cons, lv_nil, app_cons, app_nil]
            refine wp_ite rfl (fun hl => ?_) (fun hl => ?_)
            · refine wp_call rfl hnum rfl ?_
              simp only [lv_cons, lv_nil, app_cons, app_nil]
              refine wp_call rfl (allows_con' e f g h s x hk hm) rfl ?_
              simp only [lv_cons, lv_nil, app_cons, app_nil]
              refine wp_ite rfl (fun ha => ?_) (fun ha => ?_)
              · refine wp_call rfl (allows_con' a b c d s x hk hm) rfl ?_
                simp only [lv_cons, lv_nil, app_cons, app_nil]
                refine wp_lt rfl ?_
                simp only [lv_cons, lv_nil, app_cons, app_nil]
                refine wp_ite rfl (fun hx => ?_) (fun hx => ?_)
                · rw [less_allows a b c d e f g h s x hk hm (by simpa using hl) ha] at hx
                  cases hx
                · refine wp_lt (add_eval (by omega) rfl) ?_
                  simp only [lv_cons, lv_nil, app_cons, app_nil]
                  exact wp_cont rfl rfl (hQ1 _ ⟨_, n1 + 1, rfl, by omega, by omega⟩)
              · refine wp_lt (add_eval (by omega) rfl) ?_
                simp only [lv_cons, lv_nil, app_cons, app_nil]
                exact wp_cont rfl rfl (hQ1 _ ⟨_, n1 + 1, rfl, by omega, by omega⟩)
            · refine wp_lt (add_eval (by omega) rfl) ?_
              simp only [lv_cons, lv_nil, app_cons, app_nil]
              exact wp_cont rfl rfl (hQ1 _ ⟨_, n1 + 1, rfl, by omega, by omega⟩)
          · refine wp_lt (add_eval (n := n) (by omega) rfl) ?_
            simp only [lv_cons, lv_nil, app_cons, app_nil]
            exact wp_cont rfl rfl (hQ _ ⟨_, n + 1, rfl, by omega, by omega⟩)
      · refine wp_rounds (NumP 16) 17 rfl ⟨_, 0, rfl, by omega, by omega⟩ ?_ (fun es hes => by obtain ⟨_, i, rfl, h1, h2⟩ := hes; omega)
        rintro m1 es1 Q1 ⟨l1, n1, rfl, hn1, hn1'⟩ hQ1
        simp only [lv_cons, lv_nil, app_cons, app_nil]
        refine wp_lt (d := .b (decide ((n1 : Int) < 16))) rfl ?_
        simp only [lv_cons, lv_nil, app_cons, app_nil]
        refine wp_ite (t := decide ((n1 : Int) < 16)) rfl (fun hlt1 => ?_) (fun hlt1 => ?_)
        · have hlt1 : n1 < 16 := by have := of_decide_eq_true hlt1; omega
          obtain ⟨e, f, g, h, hnum⟩ := number_con (z := (n1 : Int)) (by omega) (by omega)
          refine wp_call rfl hnum rfl ?_
          simp only [lv_cons, lv_nil, app_cons, app_nil]
          refine wp_call rfl (less_con' a b c d e f g h) rfl ?_
          simp only [lv_cons, lv_nil, app_cons, app_nil]
          refine wp_lt rfl ?_
          simp only [lv_cons, lv_nil, app_cons, app_nil]
          refine wp_ite rfl (fun hl => ?_) (fun hl => ?_)
          · refine wp_call rfl hnum rfl ?_
            simp only [lv_cons, lv_nil, app_cons, app_nil]
            refine wp_call rfl (allows_con' e f g h s x hk hm) rfl ?_
            simp only [lv_cons, lv_nil, app_cons, app_nil]
            refine wp_ite rfl (fun ha => ?_) (fun ha => ?_)
            · refine wp_call rfl (allows_con' a b c d s x hk hm) rfl ?_
              simp only [lv_cons, lv_nil, app_cons, app_nil]
              refine wp_lt rfl ?_
              simp only [lv_cons, lv_nil, app_cons, app_nil]
              refine wp_ite rfl (fun hx => ?_) (fun hx => ?_)
              · rw [less_allows a b c d e f g h s x hk hm (by simpa using hl) ha] at hx
                cases hx
              · refine wp_lt (add_eval (by omega) rfl) ?_
                simp only [lv_cons, lv_nil, app_cons, app_nil]
                exact wp_cont rfl rfl (hQ1 _ ⟨_, n1 + 1, rfl, by omega, by omega⟩)
            · refine wp_lt (add_eval (by omega) rfl) ?_
              simp only [lv_cons, lv_nil, app_cons, app_nil]
              exact wp_cont rfl rfl (hQ1 _ ⟨_, n1 + 1, rfl, by omega, by omega⟩)
          · refine wp_lt (add_eval (by omega) rfl) ?_
            simp only [lv_cons, lv_nil, app_cons, app_nil]
            exact wp_cont rfl rfl (hQ1 _ ⟨_, n1 + 1, rfl, by omega, by omega⟩)
        · refine wp_lt (add_eval (n := n) (by omega) rfl) ?_
          simp only [lv_cons, lv_nil, app_cons, app_nil]
          exact wp_cont rfl rfl (hQ _ ⟨_, n + 1, rfl, by omega, by omega⟩)
  · exact wp_return rfl rfl
end Go.Proofs.YtkgomfkjeonmfaaDoor.Sx
