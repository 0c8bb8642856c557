/-
  The package-level variables' leaves, and the tables of those that a group of laws speaks of.
  Steps through an IR.
  IRs at data that are told: run by the kernel, functions and all.
  What the numbers' operations come to, of numbers that are told to be in range.
-/
import Derived.Test.YtlihbielphcgbaaGreatDoorBe
import Derived.Test.YtlihbielphcgbaaGreatDoorProg
import Derived.IntWalk
namespace Go.Proofs.YtlihbielphcgbaaGreatDoor.Sx
open Go
def gAsks : Nat × List D := (1, [.f 175, .f 176, .f 177])
def gSizes : Nat × List D := (0, [.i .u64 4096, .i .u64 2097152, .i .u64 1073741824])
def gCauses : Nat × List D := (2, [.i .i64 0, .i .i64 4, .i .i64 6, .i .i64 1, .i .i64 5, .i .i64 7, .i .i64 12, .i .i64 13, .i .i64 15])
def g0 : Glo := []
/-- all of this seat's variables -/
def gAll : Glo :=
 gCauses ::
 gAsks ::
 gSizes ::
  []
def gVa : Glo := [gSizes]
def gPerm : Glo := [gAsks]
def gCause : Glo := [gCauses]

/-- A contract that needs few variables holds with more. -/
theorem ConO.up {P : Program} {G G' : Glo} (hg : ∀ x ∈ G, Glo.at G x.1 = some x.2 → Glo.at G' x.1 = some x.2) {f : FuncId} {az rs : List DV} (h : ConO P G f az rs) : ConO P G' f az rs := by
  obtain ⟨s0, s, rows, more, rows', h1, h2, h⟩ := h
  refine ⟨s0, s, rows, more, rows', h1, h2, fun B I w v vs hG => h B I w v vs (fun g ds hd => hG g ds ?_)⟩
  have : ∀ (G : Glo) g ds, Glo.at G g = some ds → (g, ds) ∈ G := by
    intro G
    induction G with
    | nil => intro g ds h; cases h
    | cons x r ih =>
      intro g ds h
      obtain ⟨k, ls⟩ := x
      unfold Glo.at at h
      split at h
      · cases h; rename_i hk; subst hk; exact List.mem_cons_self ..
      · exact List.mem_cons_of_mem _ (ih g ds h)
  exact hg (g, ds) (this G g ds hd) hd
theorem ConM.up {P : Program} {G G' : Glo} (hg : ∀ x ∈ G, Glo.at G x.1 = some x.2 → Glo.at G' x.1 = some x.2) {f : FuncId} {az rs : List DV} (h : ConM P G f az rs) : ConM P G' f az rs := by
  intro I w vs hG
  refine h I w vs (fun g ds hd => hG g ds ?_)
  have : ∀ (G : Glo) g ds, Glo.at G g = some ds → (g, ds) ∈ G := by
    intro G
    induction G with
    | nil => intro g ds h; cases h
    | cons x r ih =>
      intro g ds h
      obtain ⟨k, ls⟩ := x
      unfold Glo.at at h
      split at h
      · cases h; rename_i hk; subst hk; exact List.mem_cons_self ..
      · exact List.mem_cons_of_mem _ (ih g ds h)
  exact hg (g, ds) (this G g ds hd) hd
end Go.Proofs.YtlihbielphcgbaaGreatDoor.Sx

namespace Go.Proofs.YtlihbielphcgbaaGreatDoor.Sx
open Go
/-- the contracts of this program's functions -/
abbrev Cn (G : Glo) : Con := ConX Tryz.prog G

section
variable {C : Con} {R : List DV → Prop} {L : List Lp} {ρ : List D}
theorem wp_lt {e : Ex} {x : IR} {d : D} (h : e.eval ρ = some d) (hx : IR.wp C R x L (ρ ++ [d])) : IR.wp C R (.lt e x) L ρ := ⟨d, h, hx⟩
theorem wp_ite {c : Ex} {x y : IR} {t : Bool} (h : c.eval ρ = some (.b t)) (h1 : t = true → IR.wp C R x L ρ) (h2 : t = false → IR.wp C R y L ρ) : IR.wp C R (.ite c x y) L ρ := ⟨t, h, h1, h2⟩
theorem wp_may {c : Ex} {x y : IR} {t : Bool} (h : c.eval ρ = some (.b t)) (h1 : t = true → IR.wp C R x L ρ) (h2 : IR.wp C R y L ρ) : IR.wp C R (.may c x y) L ρ := ⟨t, h, h1, h2⟩
theorem wp_chk {c : Ex} {x : IR} (h : c.eval ρ = some (.b true)) (hx : IR.wp C R x L ρ) : IR.wp C R (.chk c x) L ρ := ⟨h, hx⟩
theorem wp_call {f : FuncId} {args : List XV} {sh : Shape} {x : IR} {az rs : List DV} (h : evalVs ρ args = some az) (hc : C f az rs) (hs : shapeOf rs = sh) (hx : IR.wp C R x L (ρ ++ leavesOf rs)) : IR.wp C R (.call f args sh x) L ρ :=
  ⟨az, rs, h, hc, hs, hx⟩
theorem wp_return {vs : List XV} {rs : List DV} (h : evalVs ρ vs = some rs) (hr : R rs) : IR.wp C R (.ret vs) L ρ := ⟨rs, h, hr⟩
/-- a loop: the rounds' predicates P n (n rounds at most are left) -/
theorem wp_rounds {init : List Ex} {body : IR} {ds : List D} (P : Nat → Lp) (n : Nat) (h : Ex.evals ρ init = some ds) (h0 : P n ds)
    (hb : ∀ m es (Q : Lp), P (m + 1) es → (∀ es', P m es' → Q es') → IR.wp C R body (L ++ [Q]) (ρ ++ es)) (hz : ∀ es, ¬ P 0 es) : IR.wp C R (.loop init body) L ρ := by
  refine ⟨n, ds, h, ?_⟩
  revert h0
  clear h
  induction n generalizing ds with
  | zero => intro h0; exact absurd h0 (hz ds)
  | succ n ih => intro h0; exact hb n ds _ h0 (fun es' h => ih h)
/-- a join: the rest is shown once, of all values that P tells of -/
theorem wp_jn {body main : IR} (P : Lp) (hb : ∀ es, P es → IR.wp C R body L (ρ ++ es)) (hm : ∀ Q : Lp, (∀ es, P es → Q es) → IR.wp C R main (L ++ [Q]) ρ) : IR.wp C R (.jn body main) L ρ := hm _ hb
theorem wp_cont {l : Nat} {vs : List Ex} {Q : Lp} {ds : List D} (hl : L[l]? = some Q) (h : Ex.evals ρ vs = some ds) (hq : Q ds) : IR.wp C R (.cont l vs) L ρ := ⟨Q, ds, hl, h, hq⟩
end

theorem con {G : Glo} {E : Env} {n : Nat} {f : FuncId} {ir : IR} {sh : Shape} (hP : E.P = Tryz.prog) (hG : E.G = G) (hc : compile E n f = .ok ir) (hsh : paramShape Tryz.prog f = some sh) {az rs : List DV} (has : shapeOf az = sh)
    (hw : IR.wp (Cn G) (fun r => r = rs) ir [] (leavesOf az)) : Cn G f az rs := by
  have := con_of_ir (C := Cn G) (E := E) (fun f az rs h => by rw [hP, hG]; exact h) hc (by rw [hP]; exact hsh) has hw
  rwa [hP, hG] at this
theorem con' {G : Glo} {E : Env} {n : Nat} {f : FuncId} {ir : IR} {sh : Shape} (hP : E.P = Tryz.prog) (hG : E.G = G) (hc : compile E n f = .ok ir) (hsh : paramShape Tryz.prog f = some sh) {az rs : List DV} (R : List DV → Prop) (hR : ∀ r, R r → WkR r rs) (has : shapeOf az = sh)
    (hw : IR.wp (Cn G) R ir [] (leavesOf az)) : Cn G f az rs := by
  have := con_of_ir' (C := Cn G) (E := E) (fun f az rs h => by rw [hP, hG]; exact h) hc (by rw [hP]; exact hsh) hR has hw
  rwa [hP, hG] at this
/-- a contract of a function whose one result lies in new memory -/
theorem conN' {G : Glo} {E : Env} {n : Nat} {f : FuncId} {ir : IR} {sh : Shape} (hP : E.P = Tryz.prog) (hG : E.G = G) (hc : compileN E n f = .ok ir) (hsh : paramShape Tryz.prog f = some sh) {az : List DV} {r0 : DV} (R : List DV → Prop) (has : shapeOf az = sh) (huniq : Uniq r0)
    (hR : ∀ rs', R rs' → ∃ r, rs' = [r] ∧ Uniq r ∧ (∀ d ∈ r.2, d.plain ∨ ∃ s l, d = D.sl s l ∧ ∀ row ∈ l, ∀ x ∈ row, x.plain) ∧ ∀ B w v, NsR B w r v → NsR B w r0 v)
    (hw : IR.wp (Cn G) R ir [] (leavesOf az)) : Cn G (nwOff + f) az [r0] := by
  have := con_of_irN (C := Cn G) (E := E) (fun f az rs h => by rw [hP, hG]; exact h) hc (by rw [hP]; exact hsh) has huniq hR hw
  rwa [hP, hG] at this
theorem conN {G : Glo} {E : Env} {n : Nat} {f : FuncId} {ir : IR} {sh : Shape} (hP : E.P = Tryz.prog) (hG : E.G = G) (hc : compileN E n f = .ok ir) (hsh : paramShape Tryz.prog f = some sh) {az : List DV} {r : DV} (has : shapeOf az = sh)
    (huniq : Uniq r) (hpl : ∀ d ∈ r.2, d.plain ∨ ∃ s l, d = D.sl s l ∧ ∀ row ∈ l, ∀ x ∈ row, x.plain)
    (hw : IR.wp (Cn G) (fun rs => rs = [r]) ir [] (leavesOf az)) : Cn G (nwOff + f) az [r] :=
  conN' hP hG hc hsh _ has huniq (fun rs' h => ⟨r, h, huniq, hpl, fun _ _ _ h => h⟩) hw
/-- a contract of a function that uses up its last argument -/
theorem conE {G : Glo} {E : Env} {n : Nat} {f : FuncId} {ir : IR} {sh : Shape} (hP : E.P = Tryz.prog) (hG : E.G = G) (hc : compileE E n f = .ok ir) (hsh : paramShape Tryz.prog f = some sh) {az rs : List DV} {s0 : Nat} {rows : List (List D)} (has : shapeOf (az ++ [(false, [.sl s0 rows])]) = sh)
    (hw : IR.wp (Cn G) (fun r => r = rs) ir [] (leavesOf (az ++ [(false, [.sl s0 rows])]))) : Cn G (useOff + f) (az ++ [(false, [.sl s0 rows])]) rs := by
  have := con_of_irE (C := Cn G) (E := E) (fun f az rs h => by rw [hP, hG]; exact h) hc (by rw [hP]; exact hsh) has hw
  rwa [hP, hG] at this
theorem uniq1 {g : Bool} {d : D} : Uniq (g, [d]) := by
  intro i j s s' l l' h1 h2
  cases i with
  | zero =>
    cases j with
    | zero => rfl
    | succ j => simp at h2
  | succ i => simp at h1
theorem conK {G : Glo} {E : Env} {n : Nat} {f : FuncId} {ir : IR} {sh : Shape} {csh : List Nat} (hP : E.P = Tryz.prog) (hG : E.G = G) (hc : compileK E n f csh = .ok ir) (hsh : paramShape Tryz.prog f = some sh) {az caz rs : List DV} (has : shapeOf az = sh)
    (hcs : caz.map (·.2.length) = csh) (hpl : ∀ d ∈ leavesOf rs, d.plain) (hw : IR.wp (Cn G) (fun r => r = rs) ir [] (leavesOf az ++ leavesOf caz)) : Cn G (capOff + f) ((false, [.i .i64 (caz.length : Int)]) :: (az ++ caz)) rs := by
  have := conK_of_ir (C := Cn G) (E := E) (fun f az rs h => by rw [hP, hG]; exact h) hc (by rw [hP]; exact hsh) has hcs hpl hw
  rwa [hP, hG] at this
/-- appends, written out -/
theorem app_cons {α : Type} (a : α) (l r : List α) : (a :: l) ++ r = a :: (l ++ r) := rfl
theorem app_nil {α : Type} (r : List α) : ([] : List α) ++ r = r := rfl
theorem lv_cons (g : Bool) (ds : List D) (r : List DV) : leavesOf ((g, ds) :: r) = ds ++ leavesOf r := rfl
theorem lv_nil : leavesOf [] = [] := rfl
end Go.Proofs.YtlihbielphcgbaaGreatDoor.Sx

namespace Go.Proofs.YtlihbielphcgbaaGreatDoor.Sx
open Go
set_option linter.unusedVariables false

mutual
/-- the same data (of texts it says no) -/
def D.eqB : D → D → Bool
  | .b x, .b y => x == y
  | .i k n, .i k' n' => decide (k = k') && n == n'
  | .f g, .f g' => g == g'
  | .sl n xs, .sl m ys => n == m && D.eqRs xs ys
  | _, _ => false
def D.eqRs : List (List D) → List (List D) → Bool
  | [], [] => true
  | x :: xs, y :: ys => D.eqR x y && D.eqRs xs ys
  | _, _ => false
def D.eqR : List D → List D → Bool
  | [], [] => true
  | x :: xs, y :: ys => D.eqB x y && D.eqR xs ys
  | _, _ => false
end
mutual
theorem D.eqB_sound : ∀ (x y : D), D.eqB x y = true → x = y
  | .b x, .b y, h => by simpa [D.eqB] using h
  | .i k n, .i k' n', h => by simpa [D.eqB] using h
  | .f g, .f g', h => by simpa [D.eqB] using h
  | .sl n xs, .sl m ys, h => by
    simp only [D.eqB, Bool.and_eq_true, beq_iff_eq] at h
    rw [h.1, D.eqRs_sound xs ys h.2]
  | .b _, .i .., h => by simp [D.eqB] at h
  | .b _, .s .., h => by simp [D.eqB] at h
  | .b _, .f .., h => by simp [D.eqB] at h
  | .b _, .sl .., h => by simp [D.eqB] at h
  | .i .., .b .., h => by simp [D.eqB] at h
  | .i .., .s .., h => by simp [D.eqB] at h
  | .i .., .f .., h => by simp [D.eqB] at h
  | .i .., .sl .., h => by simp [D.eqB] at h
  | .s .., _, h => by simp [D.eqB] at h
  | .f .., .b .., h => by simp [D.eqB] at h
  | .f .., .s .., h => by simp [D.eqB] at h
  | .f .., .i .., h => by simp [D.eqB] at h
  | .f .., .sl .., h => by simp [D.eqB] at h
  | .sl .., .b .., h => by simp [D.eqB] at h
  | .sl .., .s .., h => by simp [D.eqB] at h
  | .sl .., .i .., h => by simp [D.eqB] at h
  | .sl .., .f .., h => by simp [D.eqB] at h
theorem D.eqRs_sound : ∀ (x y : List (List D)), D.eqRs x y = true → x = y
  | [], [], _ => rfl
  | x :: xs, y :: ys, h => by
    simp only [D.eqRs, Bool.and_eq_true] at h
    rw [D.eqR_sound x y h.1, D.eqRs_sound xs ys h.2]
  | [], _ :: _, h => by simp [D.eqRs] at h
  | _ :: _, [], h => by simp [D.eqRs] at h
theorem D.eqR_sound : ∀ (x y : List D), D.eqR x y = true → x = y
  | [], [], _ => rfl
  | x :: xs, y :: ys, h => by
    simp only [D.eqR, Bool.and_eq_true] at h
    rw [D.eqB_sound x y h.1, D.eqR_sound xs ys h.2]
  | [], _ :: _, h => by simp [D.eqR] at h
  | _ :: _, [], h => by simp [D.eqR] at h
end
def eqV : List DV → List DV → Bool
  | [], [] => true
  | (g, x) :: xs, (h, y) :: ys => g == h && D.eqR x y && eqV xs ys
  | _, _ => false
theorem eqV_sound : ∀ {x y : List DV}, eqV x y = true → x = y
  | [], [], _ => rfl
  | (g, x) :: xs, (h, y) :: ys, e => by
    simp only [eqV, Bool.and_eq_true, beq_iff_eq] at e
    rw [e.1.1, D.eqR_sound x y e.1.2, eqV_sound e.2]
  | [], _ :: _, h => by simp [eqV] at h
  | _ :: _, [], h => by simp [eqV] at h

/-- what is known of a function: its IR, and its parameters' shapes (and how many leaves the variables have that it is handed); or what it answers -/
inductive Ent where
  | ir (sh : Shape) (ir : IR)
  | irK (sh : Shape) (csh : List Nat) (ir : IR)
  | fn (g : List DV → Option (List DV))
abbrev Tbl := List (FuncId × Ent)

def D.plainB : D → Bool
  | .b _ => true
  | .i _ _ => true
  | _ => false
theorem D.plainB_sound {d : D} (h : d.plainB = true) : d.plain := by
  cases d <;> first | trivial | cases h

def Tbl.at (T : Tbl) (f : FuncId) : Option Ent :=
  match T with
  | [] => none
  | (g, x) :: r => if g = f then some x else Tbl.at r f

/-- a loop around, or a join (true): its body, and the variables ahead of it -/
abbrev Lps := List (Bool × IR × List D)

def run (T : Tbl) : Nat → IR → Lps → List D → Option (List DV)
  | 0, _, _, _ => none
  | _ + 1, .ret vs, _, ρ => evalVs ρ vs
  | n + 1, .ite c x y, L, ρ => match c.eval ρ with
    | some (.b true) => run T n x L ρ
    | some (.b false) => run T n y L ρ
    | _ => none
  | n + 1, .chk c x, L, ρ => match c.eval ρ with
    | some (.b true) => run T n x L ρ
    | _ => none
  | n + 1, .may c x y, L, ρ => match c.eval ρ with
    | some (.b true) => match run T n x L ρ, run T n y L ρ with
      | some a, some b => if eqV a b then some a else none
      | _, _ => none
    | some (.b false) => run T n y L ρ
    | _ => none
  | n + 1, .lt e x, L, ρ => match e.eval ρ with
    | some d => run T n x L (ρ ++ [d])
    | none => none
  | n + 1, .call f args sh x, L, ρ => match evalVs ρ args with
    | some az => match (match Tbl.at T f with
      | some (.ir sh' ir) => if shapeOf az = sh' then run T n ir [] (leavesOf az) else none
      | some (.irK sh' csh ir) => match az with
        | (false, [.i .i64 k]) :: r => if k = ((r.drop sh'.length).length : Int) ∧ shapeOf (r.take sh'.length) = sh' ∧ (r.drop sh'.length).map (·.2.length) = csh then
            match run T n ir [] (leavesOf (r.take sh'.length) ++ leavesOf (r.drop sh'.length)) with
            | some rs => if (leavesOf rs).all D.plainB then some rs else none
            | none => none
          else none
        | _ => none
      | some (.fn g) => g az
      | none => none) with
      | some rs => if shapeOf rs = sh then run T n x L (ρ ++ leavesOf rs) else none
      | none => none
    | none => none
  | n + 1, .loop init body, L, ρ => match Ex.evals ρ init with
    | some ds => run T n body (L ++ [(false, body, ρ)]) (ρ ++ ds)
    | none => none
  | n + 1, .cont l vs, L, ρ => match L[l]?, Ex.evals ρ vs with
    | some (j, body, ρ0), some ds => run T n body (L.take (if j then l else l + 1)) (ρ0 ++ ds)
    | _, _ => none
  | n + 1, .jn body main, L, ρ => run T n main (L ++ [(true, body, ρ)]) ρ

/-- what a table says is so -/
def Known (G : Glo) (f : FuncId) : Ent → Prop
  | .ir sh ir => ∀ az rs, shapeOf az = sh → IR.wp (Cn G) (fun r => r = rs) ir [] (leavesOf az) → Cn G f az rs
  | .irK sh csh ir => ∀ az caz rs, shapeOf az = sh → caz.map (·.2.length) = csh → (∀ d ∈ leavesOf rs, d.plain) → IR.wp (Cn G) (fun r => r = rs) ir [] (leavesOf az ++ leavesOf caz) → Cn G f ((false, [.i .i64 (caz.length : Int)]) :: (az ++ caz)) rs
  | .fn g => ∀ az rs, g az = some rs → Cn G f az rs
theorem known_ir {G : Glo} {E : Env} {n : Nat} {f : FuncId} {ir : IR} {sh : Shape} (hP : E.P = Tryz.prog) (hG : E.G = G) (hc : compile E n f = .ok ir) (hsh : paramShape Tryz.prog f = some sh) : Known G f (.ir sh ir) := fun _ _ has hw => con hP hG hc hsh has hw
theorem known_irK {G : Glo} {E : Env} {n : Nat} {f : FuncId} {ir : IR} {sh : Shape} {csh : List Nat} (hP : E.P = Tryz.prog) (hG : E.G = G) (hc : compileK E n f csh = .ok ir) (hsh : paramShape Tryz.prog f = some sh) : Known G (capOff + f) (.irK sh csh ir) := fun _ _ _ has hcs hpl hw => conK hP hG hc hsh has hcs hpl hw

theorem kcons {G : Glo} {x : FuncId × Ent} {T : Tbl} (h : Known G x.1 x.2) (hT : ∀ y ∈ T, Known G y.1 y.2) : ∀ y ∈ x :: T, Known G y.1 y.2 := List.forall_mem_cons.2 ⟨h, hT⟩
theorem kappend {G : Glo} {S T : Tbl} (hS : ∀ y ∈ S, Known G y.1 y.2) (hT : ∀ y ∈ T, Known G y.1 y.2) : ∀ y ∈ S ++ T, Known G y.1 y.2 := fun y hy => (List.mem_append.1 hy).elim (hS y) (hT y)

theorem Tbl.at_mem {f : FuncId} {e : Ent} : ∀ {T : Tbl}, Tbl.at T f = some e → (f, e) ∈ T
  | (g, x) :: r, h => by
    unfold Tbl.at at h
    split at h
    · rename_i hg
      cases h
      subst hg
      exact List.mem_cons_self ..
    · exact List.mem_cons_of_mem _ (Tbl.at_mem h)
  | [], h => by cases h

/-- What the run tells of the loops around. -/
def LpsOK (T : Tbl) (R : List DV → Prop) (n : Nat) (Ls : Lps) (L : List Lp) : Prop :=
  Ls.length = L.length ∧ ∀ (l : Nat) j body ρ0 P, Ls[l]? = some (j, body, ρ0) → L[l]? = some P → ∀ m, m < n → ∀ ds rs, run T m body (Ls.take (if j then l else l + 1)) (ρ0 ++ ds) = some rs → R rs → P ds

theorem LpsOK.le {T : Tbl} {R : List DV → Prop} {n m : Nat} {Ls : Lps} {L : List Lp} (h : LpsOK T R n Ls L) (hm : m ≤ n) : LpsOK T R m Ls L :=
  ⟨h.1, fun l j body ρ0 P h1 h2 k hk => h.2 l j body ρ0 P h1 h2 k (by omega)⟩

theorem run_sound {G : Glo} {T : Tbl} (hT : ∀ x ∈ T, Known G x.1 x.2) : ∀ (n : Nat) (ir : IR) (Ls : Lps) (L : List Lp) (ρ : List D) (rs : List DV) (R : List DV → Prop),
    run T n ir Ls ρ = some rs → R rs → LpsOK T R n Ls L → IR.wp (Cn G) R ir L ρ := by
  intro n
  induction n using Nat.strongRecOn with
  | ind n ih =>
    intro ir Ls L ρ rs R h hR hL
    cases n with
    | zero => simp [run] at h
    | succ n =>
      cases ir with
      | ret vs => exact ⟨rs, by simpa [run] using h, hR⟩
      | ite c x y =>
        simp only [run] at h
        split at h
        · rename_i hc
          exact ⟨true, hc, fun _ => ih n (by omega) x Ls L ρ rs R h hR (hL.le (by omega)), fun e => by cases e⟩
        · rename_i hc
          exact ⟨false, hc, (fun e => by cases e), fun _ => ih n (by omega) y Ls L ρ rs R h hR (hL.le (by omega))⟩
        · cases h
      | chk c x =>
        simp only [run] at h
        split at h
        · rename_i hc
          exact ⟨hc, ih n (by omega) x Ls L ρ rs R h hR (hL.le (by omega))⟩
        · cases h
      | may c x y =>
        simp only [run] at h
        split at h
        · rename_i hc
          split at h
          · rename_i a b h1 h2
            split at h
            · rename_i hab
              cases h
              exact ⟨true, hc, fun _ => ih n (by omega) x Ls L ρ rs R h1 hR (hL.le (by omega)), ih n (by omega) y Ls L ρ rs R (by rw [eqV_sound hab]; exact h2) hR (hL.le (by omega))⟩
            · cases h
          · cases h
        · rename_i hc
          exact ⟨false, hc, (fun e => by cases e), ih n (by omega) y Ls L ρ rs R h hR (hL.le (by omega))⟩
        · cases h
      | lt e x =>
        simp only [run] at h
        split at h
        · rename_i d hd
          exact ⟨d, hd, ih n (by omega) x Ls L _ rs R h hR (hL.le (by omega))⟩
        · cases h
      | call f args sh x =>
        simp only [run] at h
        split at h
        · rename_i az haz
          split at h
          · rename_i r1 hr1
            split at h
            · rename_i hrs
              refine ⟨az, r1, haz, ?_, hrs, ih n (by omega) x Ls L _ rs R h hR (hL.le (by omega))⟩
              split at hr1
              · rename_i sh' irf hat
                split at hr1
                · rename_i hsh
                  exact hT _ (Tbl.at_mem hat) az r1 hsh (ih n (by omega) irf [] [] _ r1 _ hr1 rfl ⟨rfl, fun l j body ρ0 P h1 => by simp at h1⟩)
                · cases hr1
              · rename_i sh' csh irf hat
                split at hr1
                · rename_i k r
                  split at hr1
                  · rename_i hcond
                    obtain ⟨rfl, h2, h3⟩ := hcond
                    split at hr1
                    · rename_i rs1 hrun
                      split at hr1
                      · rename_i hpl
                        cases hr1
                        have := hT _ (Tbl.at_mem hat) (r.take sh'.length) (r.drop sh'.length) r1 h2 h3 (fun d hd => D.plainB_sound (List.all_eq_true.1 hpl d hd)) (ih n (by omega) irf [] [] _ r1 _ hrun rfl ⟨rfl, fun l j body ρ0 P h1 => by simp at h1⟩)
                        rwa [List.take_append_drop] at this
                      · cases hr1
                    · cases hr1
                  · cases hr1
                · cases hr1
              · rename_i g hat
                exact hT _ (Tbl.at_mem hat) az r1 hr1
              · cases hr1
            · cases h
          · cases h
        · cases h
      | loop init body =>
        simp only [run] at h
        split at h
        · rename_i ds hds
          refine ⟨n, ds, hds, ?_⟩
          have key : ∀ (N : Nat), N ≤ n → ∀ (m : Nat) (ds : List D) (rs : List DV), m ≤ N → run T m body (Ls ++ [(false, body, ρ)]) (ρ ++ ds) = some rs → R rs →
              (Nat.rec (motive := fun _ => Lp) (fun _ => False) (fun _ Pn es => IR.wp (Cn G) R body (L ++ [Pn]) (ρ ++ es)) N ds : Prop) := by
            intro N
            induction N with
            | zero =>
              intro _ m ds rs hm h _
              obtain rfl : m = 0 := by omega
              simp [run] at h
            | succ N ihN =>
              intro hN m ds rs hm h hR
              refine ih m (by omega) body (Ls ++ [(false, body, ρ)]) _ (ρ ++ ds) rs R h hR ⟨by simp [hL.1], fun l j body' ρ0 P h1 h2 k hk ds' rs' hr hR' => ?_⟩
              by_cases hl : l < Ls.length
              · rw [List.getElem?_append_left hl] at h1
                rw [List.getElem?_append_left (by rw [← hL.1]; exact hl)] at h2
                refine hL.2 l j body' ρ0 P h1 h2 k (by omega) ds' rs' ?_ hR'
                rw [List.take_append_of_le_length (by split <;> omega)] at hr
                exact hr
              · have hl' : l = Ls.length := by
                  have := (List.getElem?_eq_some_iff.1 h1).1
                  simp at this
                  omega
                subst hl'
                rw [List.getElem?_append_right (by omega)] at h1
                simp only [Nat.sub_self, List.getElem?_cons_zero, Option.some.injEq, Prod.mk.injEq] at h1
                obtain ⟨rfl, rfl, rfl⟩ := h1
                rw [List.getElem?_append_right (by rw [hL.1]; omega), hL.1] at h2
                simp only [Nat.sub_self, List.getElem?_cons_zero, Option.some.injEq] at h2
                subst h2
                refine ihN (by omega) k ds' rs' (by omega) ?_ hR'
                rw [List.take_of_length_le (by simp)] at hr
                exact hr
          exact key n (Nat.le_refl _) n ds rs (Nat.le_refl _) h hR
        · cases h
      | cont l vs =>
        simp only [run] at h
        split at h
        · rename_i j body ρ0 ds hl hds
          obtain ⟨P, hP⟩ : ∃ P, L[l]? = some P := by
            have := (List.getElem?_eq_some_iff.1 hl).1
            exact ⟨_, List.getElem?_eq_getElem (by rw [← hL.1]; exact this)⟩
          exact ⟨P, ds, hP, hds, hL.2 l j body ρ0 P hl hP n (by omega) ds rs h hR⟩
        · cases h

      | jn body main =>
        simp only [run] at h
        refine ih n (by omega) main (Ls ++ [(true, body, ρ)]) (L ++ [fun es => IR.wp (Cn G) R body L (ρ ++ es)]) ρ rs R h hR ⟨by simp [hL.1], fun l j body' ρ0 P h1 h2 k hk ds' rs' hr hR' => ?_⟩
        by_cases hl : l < Ls.length
        · rw [List.getElem?_append_left hl] at h1
          rw [List.getElem?_append_left (by rw [← hL.1]; exact hl)] at h2
          refine hL.2 l j body' ρ0 P h1 h2 k (by omega) ds' rs' ?_ hR'
          rw [List.take_append_of_le_length (by split <;> omega)] at hr
          exact hr
        · have hl' : l = Ls.length := by
            have := (List.getElem?_eq_some_iff.1 h1).1
            simp at this
            omega
          subst hl'
          rw [List.getElem?_append_right (by omega)] at h1
          simp only [Nat.sub_self, List.getElem?_cons_zero, Option.some.injEq, Prod.mk.injEq] at h1
          obtain ⟨rfl, rfl, rfl⟩ := h1
          rw [List.getElem?_append_right (by rw [hL.1]; omega), hL.1] at h2
          simp only [Nat.sub_self, List.getElem?_cons_zero, Option.some.injEq] at h2
          subst h2
          simp only [if_true, List.take_left] at hr
          exact ih k (by omega) body Ls L (ρ ++ ds') rs' R hr hR' (hL.le (by omega))

/-- A CONTRACT OUT OF A RUN. -/
theorem con_of_run {G : Glo} {T : Tbl} (hT : ∀ x ∈ T, Known G x.1 x.2) {f : FuncId} {sh : Shape} {ir : IR} (hf : Tbl.at T f = some (.ir sh ir)) (n : Nat) {az rs : List DV} (hs : shapeOf az = sh)
    (h : run T n ir [] (leavesOf az) = some rs) : Cn G f az rs :=
  hT _ (Tbl.at_mem hf) az rs hs (run_sound hT n ir [] [] _ rs _ h rfl ⟨rfl, fun l j body ρ0 P h1 => by simp at h1⟩)

/-- it returned this -/
def isV (r : Option (List DV)) (x : List DV) : Bool := match r with | some y => eqV y x | none => false
theorem isV_eq {r : Option (List DV)} {x : List DV} (h : isV r x = true) : r = some x := by
  unfold isV at h
  split at h
  · rw [eqV_sound h]
  · cases h
/-- both returned the same truth value -/
def sameT (r s : Option (List DV)) : Bool := match r, s with | some [(false, [.b x])], some [(false, [.b y])] => x == y | _, _ => false
theorem sameT_eq {r s : Option (List DV)} (h : sameT r s = true) : ∃ t, r = some [(false, [.b t])] ∧ s = some [(false, [.b t])] := by
  unfold sameT at h
  split at h
  · rename_i x y
    have := eq_of_beq h
    exact ⟨x, rfl, by rw [this]⟩
  · cases h
/-- whatever the truth value -/
def allB (p : Bool → Bool) : Bool := p false && p true
theorem allB_all {p : Bool → Bool} (h : allB p = true) (b : Bool) : p b = true := by
  unfold allB at h
  simp only [Bool.and_eq_true] at h
  cases b
  · exact h.1
  · exact h.2
/-- a part of an IR: t, e: the branches of a question; n: behind a let, a check, a call, or into a loop -/
inductive Dir where
  | t
  | e
  | n
def IR.sub : List Dir → IR → IR
  | [], x => x
  | .n :: r, .lt _ x => IR.sub r x
  | .n :: r, .chk _ x => IR.sub r x
  | .n :: r, .call _ _ _ x => IR.sub r x
  | .n :: r, .loop _ x => IR.sub r x
  | .t :: r, .ite _ x _ => IR.sub r x
  | .e :: r, .ite _ _ y => IR.sub r y
  | .n :: r, .jn _ x => IR.sub r x
  | .t :: r, .may _ x _ => IR.sub r x
  | .e :: r, .may _ _ y => IR.sub r y
  | _, x => x
/-- the rest of a function, run -/
theorem wp_run {G : Glo} {T : Tbl} (hT : ∀ x ∈ T, Known G x.1 x.2) {n : Nat} {ir : IR} {ρ : List D} {rs : List DV} {R : List DV → Prop} (h : run T n ir [] ρ = some rs) (hR : R rs) : IR.wp (Cn G) R ir [] ρ :=
  run_sound hT n ir [] [] ρ rs R h hR ⟨rfl, fun l j body ρ0 P h1 => by simp at h1⟩

/-- an element's leaves -/
def idr (x i : Ex) (j : Nat) : Nat → List Ex
  | 0 => []
  | n + 1 => .idx x i j :: idr x i (j + 1) n
theorem evals_idr {ρ : List D} {x i : Ex} {s : Nat} {rows : List (List D)} {k : IntKind} {m : Nat} {r : List D} (hx : x.eval ρ = some (.sl s rows)) (hi : i.eval ρ = some (.i k (m : Int))) (hr : rows[m]? = some r) :
    ∀ (n j : Nat), j + n ≤ r.length → Ex.evals ρ (idr x i j n) = some ((r.drop j).take n)
  | 0, j, _ => by simp [idr, Ex.evals]
  | n + 1, j, h => by
    have h1 := evals_idr hx hi hr n (j + 1) (by omega)
    have hj : j < r.length := by omega
    have h2 : (Ex.idx x i j).eval ρ = some r[j] := by
      simp only [Ex.eval, hx, hi, idxD]
      rw [if_pos (by omega)]
      simp [hr, List.getElem?_eq_getElem hj]
    simp only [idr, Ex.evals, h1, h2]
    rw [List.drop_eq_getElem_cons hj, List.take_succ_cons]
theorem evals_row {ρ : List D} {x i : Ex} {s : Nat} {rows : List (List D)} {k : IntKind} {m : Nat} {r : List D} {n : Nat} (hx : x.eval ρ = some (.sl s rows)) (hi : i.eval ρ = some (.i k (m : Int))) (hr : rows[m]? = some r) (hn : r.length = n) : Ex.evals ρ (idr x i 0 n) = some r := by
  rw [evals_idr hx hi hr n 0 (by omega), List.drop_zero, List.take_of_length_le (by omega)]

/-- it returned true -/
def isT : Option (List DV) → Bool
  | some [(false, [.b true])] => true
  | _ => false
theorem isT_eq {r : Option (List DV)} (h : isT r = true) : r = some [(false, [.b true])] := by
  unfold isT at h
  split at h
  · rfl
  · cases h
/-- of every byte -/
theorem all_u8 {p : Nat → Bool} (h : (List.range 256).all p = true) {z : Int} (h0 : 0 ≤ z) (h1 : z < 256) : p z.toNat = true := List.all_eq_true.1 h _ (by simp; omega)
end Go.Proofs.YtlihbielphcgbaaGreatDoor.Sx

namespace Go.Proofs.YtlihbielphcgbaaGreatDoor.Sx
open Go
set_option linter.unusedVariables false
set_option linter.unusedSimpArgs false

/-- an unsigned word of 64 bits -/
abbrev U (n : Nat) : D := .i .u64 (n : Int)
abbrev I (n : Int) : D := .i .i64 n
abbrev u (n : Nat) : DV := (false, [U n])
abbrev i (n : Int) : DV := (false, [I n])
abbrev bb (x : Bool) : DV := (false, [.b x])

theorem wrapU {n : Nat} (h : n < 18446744073709551616) : IntKind.u64.wrap (n : Int) = (n : Int) := IntWalk.u64_in _ (by omega)
theorem wrapU' {x : Int} {n : Nat} (hx : x = (n : Int)) (h : n < 18446744073709551616) : IntKind.u64.wrap x = (n : Int) := by subst hx; exact wrapU h
theorem wrapI {n : Int} (h0 : -9223372036854775808 ≤ n) (h1 : n ≤ 9223372036854775807) : IntKind.i64.wrap n = n := IntWalk.i64_in _ ⟨h0, h1⟩

section
variable {ρ : List D} {x y : Ex}
theorem u_add {a b : Nat} (hx : x.eval ρ = some (U a)) (hy : y.eval ρ = some (U b)) (h : a + b < 18446744073709551616) : (Ex.bin .add x y).eval ρ = some (U (a + b)) := by
  simp [Ex.eval, hx, hy, binD, wrapU' (n := a + b) (by push_cast; rfl) h]
theorem u_sub {a b : Nat} (hx : x.eval ρ = some (U a)) (hy : y.eval ρ = some (U b)) (h : b ≤ a) (ha : a < 18446744073709551616) : (Ex.bin .sub x y).eval ρ = some (U (a - b)) := by
  simp [Ex.eval, hx, hy, binD, wrapU' (x := (a : Int) - b) (n := a - b) (by omega) (by omega)]
theorem u_mul {a b : Nat} (hx : x.eval ρ = some (U a)) (hy : y.eval ρ = some (U b)) (h : a * b < 18446744073709551616) : (Ex.bin .mul x y).eval ρ = some (U (a * b)) := by
  simp [Ex.eval, hx, hy, binD, wrapU' (x := (a : Int) * b) (n := a * b) (by push_cast; rfl) h]
theorem u_quo {a b : Nat} (hx : x.eval ρ = some (U a)) (hy : y.eval ρ = some (U b)) (h : b ≠ 0) (ha : a < 18446744073709551616) : (Ex.bin .quo x y).eval ρ = some (U (a / b)) := by
  have h1 : (a : Int).tdiv b = ((a / b : Nat) : Int) := by rw [Int.tdiv_eq_ediv_of_nonneg (by omega)]; push_cast; rfl
  have h2 : a / b ≤ a := Nat.div_le_self ..
  have h3 : ¬ (b : Int) = 0 := by omega
  simp only [Ex.eval, hx, hy, binD, if_true]
  rw [if_neg h3, wrapU' h1 (by omega)]
theorem u_rem {a b : Nat} (hx : x.eval ρ = some (U a)) (hy : y.eval ρ = some (U b)) (h : b ≠ 0) : (Ex.bin .rem x y).eval ρ = some (U (a % b)) := by
  have h1 : (a : Int).tmod b = ((a % b : Nat) : Int) := by rw [Int.tmod_eq_emod_of_nonneg (by omega)]; push_cast; rfl
  have h3 : ¬ (b : Int) = 0 := by omega
  simp only [Ex.eval, hx, hy, binD, if_true]
  rw [if_neg h3, h1]
theorem u_shr {k : IntKind} {a b : Nat} (hx : x.eval ρ = some (U a)) (hy : y.eval ρ = some (.i k (b : Int))) (h : b ≤ 64) : (Ex.bin .shr x y).eval ρ = some (U (a / 2 ^ b)) := by
  have hk : min b IntKind.u64.bits = b := Nat.min_eq_left h
  have h1 : ¬ (b : Int) < 0 := by omega
  simp only [Ex.eval, hx, hy, binD, if_neg h1, Int.toNat_natCast, hk]
  have e : (2 : Int) ^ b = ((2 ^ b : Nat) : Int) := by simp
  rw [e, Int.fdiv_eq_ediv_of_nonneg _ (Int.natCast_nonneg _), ← Int.natCast_ediv]
theorem u_shl {k : IntKind} {a b : Nat} (hx : x.eval ρ = some (U a)) (hy : y.eval ρ = some (.i k (b : Int))) (h : b ≤ 64) (ha : a * 2 ^ b < 18446744073709551616) : (Ex.bin .shl x y).eval ρ = some (U (a * 2 ^ b)) := by
  have hk : min b IntKind.u64.bits = b := Nat.min_eq_left h
  have h1 : ¬ (b : Int) < 0 := by omega
  simp only [Ex.eval, hx, hy, binD, if_neg h1, Int.toNat_natCast, hk]
  rw [wrapU' (x := (a : Int) * 2 ^ b) (n := a * 2 ^ b) (by push_cast; rfl) ha]
theorem and64 {a b : Nat} (ha : a < 18446744073709551616) (hb : b < 18446744073709551616) : (BitVec.ofInt 64 (a : Int) &&& BitVec.ofInt 64 (b : Int)).toNat = a &&& b := by
  rw [BitVec.toNat_and, BitVec.ofInt_natCast, BitVec.ofInt_natCast, BitVec.toNat_ofNat, BitVec.toNat_ofNat, Nat.mod_eq_of_lt ha, Nat.mod_eq_of_lt hb]
theorem u_and {a b : Nat} (hx : x.eval ρ = some (U a)) (hy : y.eval ρ = some (U b)) (ha : a < 18446744073709551616) (hb : b < 18446744073709551616) : (Ex.bin .and x y).eval ρ = some (U (a &&& b)) := by
  have h1 : (BitVec.ofInt IntKind.u64.bits (a : Int) &&& BitVec.ofInt IntKind.u64.bits (b : Int)).toNat = a &&& b := and64 ha hb
  have h2 : a &&& b ≤ a := Nat.and_le_left
  simp only [Ex.eval, hx, hy, binD, if_true]
  rw [h1, wrapU (by omega)]
theorem or64 {a b : Nat} (ha : a < 18446744073709551616) (hb : b < 18446744073709551616) : (BitVec.ofInt 64 (a : Int) ||| BitVec.ofInt 64 (b : Int)).toNat = a ||| b := by
  rw [BitVec.toNat_or, BitVec.ofInt_natCast, BitVec.ofInt_natCast, BitVec.toNat_ofNat, BitVec.toNat_ofNat, Nat.mod_eq_of_lt ha, Nat.mod_eq_of_lt hb]
theorem u_or {a b : Nat} (hx : x.eval ρ = some (U a)) (hy : y.eval ρ = some (U b)) (ha : a < 18446744073709551616) (hb : b < 18446744073709551616) : (Ex.bin .or x y).eval ρ = some (U (a ||| b)) := by
  have h1 : (BitVec.ofInt IntKind.u64.bits (a : Int) ||| BitVec.ofInt IntKind.u64.bits (b : Int)).toNat = a ||| b := or64 ha hb
  have h2 : a ||| b < 2 ^ 64 := Nat.or_lt_two_pow (n := 64) ha hb
  simp only [Ex.eval, hx, hy, binD, if_true]
  rw [h1, wrapU h2]
theorem i_add {a b : Int} (hx : x.eval ρ = some (I a)) (hy : y.eval ρ = some (I b)) (h0 : -9223372036854775808 ≤ a + b) (h1 : a + b ≤ 9223372036854775807) : (Ex.bin .add x y).eval ρ = some (I (a + b)) := by
  simp [Ex.eval, hx, hy, binD, wrapI h0 h1]
theorem i_sub {a b : Int} (hx : x.eval ρ = some (I a)) (hy : y.eval ρ = some (I b)) (h0 : -9223372036854775808 ≤ a - b) (h1 : a - b ≤ 9223372036854775807) : (Ex.bin .sub x y).eval ρ = some (I (a - b)) := by
  simp [Ex.eval, hx, hy, binD, wrapI h0 h1]
theorem i_quo {a b : Nat} (hx : x.eval ρ = some (I a)) (hy : y.eval ρ = some (I b)) (h : b ≠ 0) (ha : a < 9223372036854775808) : (Ex.bin .quo x y).eval ρ = some (I (a / b : Nat)) := by
  have h1 : (a : Int).tdiv b = ((a / b : Nat) : Int) := by rw [Int.tdiv_eq_ediv_of_nonneg (by omega)]; push_cast; rfl
  have h2 : a / b ≤ a := Nat.div_le_self ..
  have h3 : ¬ (b : Int) = 0 := by omega
  simp only [Ex.eval, hx, hy, binD, if_true]
  generalize a / b = q at h1 h2 ⊢
  rw [if_neg h3, h1, wrapI (by omega) (by omega)]
theorem cv_u {k : IntKind} {n : Nat} (hx : x.eval ρ = some (.i k (n : Int))) (h : n < 18446744073709551616) : (Ex.cv .u64 x).eval ρ = some (U n) := by
  simp [Ex.eval, hx, wrapU h]
theorem cv_i {k : IntKind} {n : Int} (hx : x.eval ρ = some (.i k n)) (h0 : -9223372036854775808 ≤ n) (h1 : n ≤ 9223372036854775807) : (Ex.cv .i64 x).eval ρ = some (I n) := by
  simp [Ex.eval, hx, wrapI h0 h1]
theorem c_u {n : Nat} : (Ex.c (.i .u64 (n : Int))).eval ρ = some (U n) := rfl
end
/-! ### tests -/
section
variable {ρ : List D} {x y z c : Ex}
theorem ite_t {t : Bool} (hc : c.eval ρ = some (.b true)) (hx : x.eval ρ = some (.b t)) : (Ex.ite c x y).eval ρ = some (.b t) := by
  simp [Ex.eval, hc, hx]
theorem eqs_b {t : Bool} (hx : x.eval ρ = some (.b t)) (hy : y.eval ρ = some (.b t)) : (Ex.eqt true x y).eval ρ = some (.b true) := by
  simp [Ex.eval, hx, hy, eqtD]
theorem eqs_i {k : IntKind} {n : Int} (hx : x.eval ρ = some (.i k n)) (hy : y.eval ρ = some (.i k n)) : (Ex.eqt false x y).eval ρ = some (.b true) := by
  simp [Ex.eval, hx, hy, eqtD]
theorem not_e {t : Bool} (hx : x.eval ρ = some (.b t)) : (Ex.un .not x).eval ρ = some (.b (!t)) := by
  simp [Ex.eval, hx, unD]
theorem rem8 {a m : Nat} (hx : x.eval ρ = some (.i .u8 (a : Int))) (hm : m ≠ 0) : (Ex.bin .rem x (.c (.i .u8 (m : Int)))).eval ρ = some (.i .u8 ((a % m : Nat) : Int)) := by
  have h1 : (a : Int).tmod m = ((a % m : Nat) : Int) := by rw [Int.tmod_eq_emod_of_nonneg (by omega)]; push_cast; rfl
  have h3 : ¬ (m : Int) = 0 := by omega
  simp only [Ex.eval, hx, binD, if_true]
  rw [if_neg h3, h1]
end
/-- a mask -/
theorem and_mask {a k : Nat} : a &&& (2 ^ k - 1) = a % 2 ^ k := Nat.and_two_pow_sub_one_eq_mod a k
end Go.Proofs.YtlihbielphcgbaaGreatDoor.Sx
