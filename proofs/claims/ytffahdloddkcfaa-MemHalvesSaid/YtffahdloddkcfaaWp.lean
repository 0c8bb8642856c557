/-
  Steps through an IR.
-/
import Derived.Test.YtffahdloddkcfaaGlo
import Derived.Test.YtffahdloddkcfaaProg
namespace Go.Proofs.Ytffahdloddkcfaa.Sx
open Go
/-- the contracts of this program's functions -/
abbrev Cn (G : Glo) : Con := ConX Try.prog G

section
variable {C : Con} {R : List DV → Prop} {L : List Lp} {ρ : List D}
theorem wp_lt {e : Ex} {x : IR} {d : D} (h : e.eval ρ = some d) (hx : IR.wp C R x L (ρ ++ [d])) : IR.wp C R (.lt e x) L ρ := ⟨d, h, hx⟩
theorem wp_ite {c : Ex} {x y : IR} {t : Bool} (h : c.eval ρ = some (.b t)) (h1 : t = true → IR.wp C R x L ρ) (h2 : t = false → IR.wp C R y L ρ) : IR.wp C R (.ite c x y) L ρ := ⟨t, h, h1, h2⟩
theorem wp_may {c : Ex} {x y : IR} {t : Bool} (h : c.eval ρ = some (.b t)) (h1 : t = true → IR.wp C R x L ρ) (h2 : IR.wp C R y L ρ) : IR.wp C R (.may c x y) L ρ := ⟨t, h, h1, h2⟩
theorem wp_chk {c : Ex} {x : IR} (h : c.eval ρ = some (.b true)) (hx : IR.wp C R x L ρ) : IR.wp C R (.chk c x) L ρ := ⟨h, hx⟩
theorem wp_call {f : FuncId} {args : List XV} {sh : Shape} {x : IR} {az rs : List DV} (h : evalVs ρ args = some az) (hc : C f az rs) (hs : shapeOf rs = sh) (hx : IR.wp C R x L (ρ ++ leavesOf rs)) : IR.wp C R (.call f args sh x) L ρ :=
  ⟨az, rs, h, hc, hs, hx⟩
theorem wp_return {vs : List XV} {rs : List DV} (h : evalVs ρ vs = some rs) (hr : R rs) : IR.wp C R (.ret vs) L ρ := ⟨rs, h, hr⟩
/-- a loop: the rounds' predicates P n (n rounds at most are left) -/
theorem wp_rounds {init : List Ex} {body : IR} {ds : List D} (P : Nat → Lp) (n : Nat) (h : Ex.evals ρ init = some ds) (h0 : P n ds)
    (hb : ∀ m es (Q : Lp), P (m + 1) es → (∀ es', P m es' → Q es') → IR.wp C R body (L ++ [Q]) (ρ ++ es)) (hz : ∀ es, ¬ P 0 es) : IR.wp C R (.loop init body) L ρ := by
  refine ⟨n, ds, h, ?_⟩
  revert h0
  clear h
  induction n generalizing ds with
  | zero => intro h0; exact absurd h0 (hz ds)
  | succ n ih => intro h0; exact hb n ds _ h0 (fun es' h => ih h)
/-- a join: the rest is shown once, of all values that P tells of -/
theorem wp_jn {body main : IR} (P : Lp) (hb : ∀ es, P es → IR.wp C R body L (ρ ++ es)) (hm : ∀ Q : Lp, (∀ es, P es → Q es) → IR.wp C R main (L ++ [Q]) ρ) : IR.wp C R (.jn body main) L ρ := hm _ hb
theorem wp_cont {l : Nat} {vs : List Ex} {Q : Lp} {ds : List D} (hl : L[l]? = some Q) (h : Ex.evals ρ vs = some ds) (hq : Q ds) : IR.wp C R (.cont l vs) L ρ := ⟨Q, ds, hl, h, hq⟩
end

theorem con {G : Glo} {E : Env} {n : Nat} {f : FuncId} {ir : IR} {sh : Shape} (hP : E.P = Try.prog) (hG : E.G = G) (hc : compile E n f = .ok ir) (hsh : paramShape Try.prog f = some sh) {az rs : List DV} (has : shapeOf az = sh)
    (hw : IR.wp (Cn G) (fun r => r = rs) ir [] (leavesOf az)) : Cn G f az rs := by
  have := con_of_ir (C := Cn G) (E := E) (fun f az rs h => by rw [hP, hG]; exact h) hc (by rw [hP]; exact hsh) has hw
  rwa [hP, hG] at this
theorem con' {G : Glo} {E : Env} {n : Nat} {f : FuncId} {ir : IR} {sh : Shape} (hP : E.P = Try.prog) (hG : E.G = G) (hc : compile E n f = .ok ir) (hsh : paramShape Try.prog f = some sh) {az rs : List DV} (R : List DV → Prop) (hR : ∀ r, R r → WkR r rs) (has : shapeOf az = sh)
    (hw : IR.wp (Cn G) R ir [] (leavesOf az)) : Cn G f az rs := by
  have := con_of_ir' (C := Cn G) (E := E) (fun f az rs h => by rw [hP, hG]; exact h) hc (by rw [hP]; exact hsh) hR has hw
  rwa [hP, hG] at this
theorem conK {G : Glo} {E : Env} {n : Nat} {f : FuncId} {ir : IR} {sh : Shape} {csh : List Nat} (hP : E.P = Try.prog) (hG : E.G = G) (hc : compileK E n f csh = .ok ir) (hsh : paramShape Try.prog f = some sh) {az caz rs : List DV} (has : shapeOf az = sh)
    (hcs : caz.map (·.2.length) = csh) (hpl : ∀ d ∈ leavesOf rs, d.plain) (hw : IR.wp (Cn G) (fun r => r = rs) ir [] (leavesOf az ++ leavesOf caz)) : Cn G (capOff + f) ((false, [.i .i64 (caz.length : Int)]) :: (az ++ caz)) rs := by
  have := conK_of_ir (C := Cn G) (E := E) (fun f az rs h => by rw [hP, hG]; exact h) hc (by rw [hP]; exact hsh) has hcs hpl hw
  rwa [hP, hG] at this
/-- appends, written out -/
theorem app_cons {α : Type} (a : α) (l r : List α) : (a :: l) ++ r = a :: (l ++ r) := rfl
theorem app_nil {α : Type} (r : List α) : ([] : List α) ++ r = r := rfl
theorem lv_cons (g : Bool) (ds : List D) (r : List DV) : leavesOf ((g, ds) :: r) = ds ++ leavesOf r := rfl
theorem lv_nil : leavesOf [] = [] := rfl
end Go.Proofs.Ytffahdloddkcfaa.Sx
