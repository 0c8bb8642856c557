/-
  IRs at data that are told: run by the kernel, functions and all.
-/
import Derived.Test.YtffahdloddkcfaaWp
namespace Go.Proofs.Ytffahdloddkcfaa.Sx
open Go
set_option linter.unusedVariables false

mutual
/-- the same data (of texts it says no) -/
def D.eqB : D → D → Bool
  | .b x, .b y => x == y
  | .i k n, .i k' n' => decide (k = k') && n == n'
  | .f g, .f g' => g == g'
  | .sl n xs, .sl m ys => n == m && D.eqRs xs ys
  | _, _ => false
def D.eqRs : List (List D) → List (List D) → Bool
  | [], [] => true
  | x :: xs, y :: ys => D.eqR x y && D.eqRs xs ys
  | _, _ => false
def D.eqR : List D → List D → Bool
  | [], [] => true
  | x :: xs, y :: ys => D.eqB x y && D.eqR xs ys
  | _, _ => false
end
mutual
theorem D.eqB_sound : ∀ (x y : D), D.eqB x y = true → x = y
  | .b x, .b y, h => by simpa [D.eqB] using h
  | .i k n, .i k' n', h => by simpa [D.eqB] using h
  | .f g, .f g', h => by simpa [D.eqB] using h
  | .sl n xs, .sl m ys, h => by
    simp only [D.eqB, Bool.and_eq_true, beq_iff_eq] at h
    rw [h.1, D.eqRs_sound xs ys h.2]
  | .b _, .i .., h => by simp [D.eqB] at h
  | .b _, .s .., h => by simp [D.eqB] at h
  | .b _, .f .., h => by simp [D.eqB] at h
  | .b _, .sl .., h => by simp [D.eqB] at h
  | .i .., .b .., h => by simp [D.eqB] at h
  | .i .., .s .., h => by simp [D.eqB] at h
  | .i .., .f .., h => by simp [D.eqB] at h
  | .i .., .sl .., h => by simp [D.eqB] at h
  | .s .., _, h => by simp [D.eqB] at h
  | .f .., .b .., h => by simp [D.eqB] at h
  | .f .., .s .., h => by simp [D.eqB] at h
  | .f .., .i .., h => by simp [D.eqB] at h
  | .f .., .sl .., h => by simp [D.eqB] at h
  | .sl .., .b .., h => by simp [D.eqB] at h
  | .sl .., .s .., h => by simp [D.eqB] at h
  | .sl .., .i .., h => by simp [D.eqB] at h
  | .sl .., .f .., h => by simp [D.eqB] at h
theorem D.eqRs_sound : ∀ (x y : List (List D)), D.eqRs x y = true → x = y
  | [], [], _ => rfl
  | x :: xs, y :: ys, h => by
    simp only [D.eqRs, Bool.and_eq_true] at h
    rw [D.eqR_sound x y h.1, D.eqRs_sound xs ys h.2]
  | [], _ :: _, h => by simp [D.eqRs] at h
  | _ :: _, [], h => by simp [D.eqRs] at h
theorem D.eqR_sound : ∀ (x y : List D), D.eqR x y = true → x = y
  | [], [], _ => rfl
  | x :: xs, y :: ys, h => by
    simp only [D.eqR, Bool.and_eq_true] at h
    rw [D.eqB_sound x y h.1, D.eqR_sound xs ys h.2]
  | [], _ :: _, h => by simp [D.eqR] at h
  | _ :: _, [], h => by simp [D.eqR] at h
end
def eqV : List DV → List DV → Bool
  | [], [] => true
  | (g, x) :: xs, (h, y) :: ys => g == h && D.eqR x y && eqV xs ys
  | _, _ => false
theorem eqV_sound : ∀ {x y : List DV}, eqV x y = true → x = y
  | [], [], _ => rfl
  | (g, x) :: xs, (h, y) :: ys, e => by
    simp only [eqV, Bool.and_eq_true, beq_iff_eq] at e
    rw [e.1.1, D.eqR_sound x y e.1.2, eqV_sound e.2]
  | [], _ :: _, h => by simp [eqV] at h
  | _ :: _, [], h => by simp [eqV] at h

/-- what is known of a function: its IR, and its parameters' shapes (and how many leaves the variables have that it is handed); or what it answers -/
inductive Ent where
  | ir (sh : Shape) (ir : IR)
  | irK (sh : Shape) (csh : List Nat) (ir : IR)
  | fn (g : List DV → Option (List DV))
abbrev Tbl := List (FuncId × Ent)

def D.plainB : D → Bool
  | .b _ => true
  | .i _ _ => true
  | _ => false
theorem D.plainB_sound {d : D} (h : d.plainB = true) : d.plain := by
  cases d <;> first | trivial | cases h

def Tbl.at (T : Tbl) (f : FuncId) : Option Ent :=
  match T with
  | [] => none
  | (g, x) :: r => if g = f then some x else Tbl.at r f

/-- a loop around, or a join (true): its body, and the variables ahead of it -/
abbrev Lps := List (Bool × IR × List D)

def run (T : Tbl) : Nat → IR → Lps → List D → Option (List DV)
  | 0, _, _, _ => none
  | _ + 1, .ret vs, _, ρ => evalVs ρ vs
  | n + 1, .ite c x y, L, ρ => match c.eval ρ with
    | some (.b true) => run T n x L ρ
    | some (.b false) => run T n y L ρ
    | _ => none
  | n + 1, .chk c x, L, ρ => match c.eval ρ with
    | some (.b true) => run T n x L ρ
    | _ => none
  | n + 1, .may c x y, L, ρ => match c.eval ρ with
    | some (.b true) => match run T n x L ρ, run T n y L ρ with
      | some a, some b => if eqV a b then some a else none
      | _, _ => none
    | some (.b false) => run T n y L ρ
    | _ => none
  | n + 1, .lt e x, L, ρ => match e.eval ρ with
    | some d => run T n x L (ρ ++ [d])
    | none => none
  | n + 1, .call f args sh x, L, ρ => match evalVs ρ args with
    | some az => match (match Tbl.at T f with
      | some (.ir sh' ir) => if shapeOf az = sh' then run T n ir [] (leavesOf az) else none
      | some (.irK sh' csh ir) => match az with
        | (false, [.i .i64 k]) :: r => if k = ((r.drop sh'.length).length : Int) ∧ shapeOf (r.take sh'.length) = sh' ∧ (r.drop sh'.length).map (·.2.length) = csh then
            match run T n ir [] (leavesOf (r.take sh'.length) ++ leavesOf (r.drop sh'.length)) with
            | some rs => if (leavesOf rs).all D.plainB then some rs else none
            | none => none
          else none
        | _ => none
      | some (.fn g) => g az
      | none => none) with
      | some rs => if shapeOf rs = sh then run T n x L (ρ ++ leavesOf rs) else none
      | none => none
    | none => none
  | n + 1, .loop init body, L, ρ => match Ex.evals ρ init with
    | some ds => run T n body (L ++ [(false, body, ρ)]) (ρ ++ ds)
    | none => none
  | n + 1, .cont l vs, L, ρ => match L[l]?, Ex.evals ρ vs with
    | some (j, body, ρ0), some ds => run T n body (L.take (if j then l else l + 1)) (ρ0 ++ ds)
    | _, _ => none
  | n + 1, .jn body main, L, ρ => run T n main (L ++ [(true, body, ρ)]) ρ

/-- what a table says is so -/
def Known (G : Glo) (f : FuncId) : Ent → Prop
  | .ir sh ir => ∀ az rs, shapeOf az = sh → IR.wp (Cn G) (fun r => r = rs) ir [] (leavesOf az) → Cn G f az rs
  | .irK sh csh ir => ∀ az caz rs, shapeOf az = sh → caz.map (·.2.length) = csh → (∀ d ∈ leavesOf rs, d.plain) → IR.wp (Cn G) (fun r => r = rs) ir [] (leavesOf az ++ leavesOf caz) → Cn G f ((false, [.i .i64 (caz.length : Int)]) :: (az ++ caz)) rs
  | .fn g => ∀ az rs, g az = some rs → Cn G f az rs
theorem known_ir {G : Glo} {E : Env} {n : Nat} {f : FuncId} {ir : IR} {sh : Shape} (hP : E.P = Try.prog) (hG : E.G = G) (hc : compile E n f = .ok ir) (hsh : paramShape Try.prog f = some sh) : Known G f (.ir sh ir) := fun _ _ has hw => con hP hG hc hsh has hw
theorem known_irK {G : Glo} {E : Env} {n : Nat} {f : FuncId} {ir : IR} {sh : Shape} {csh : List Nat} (hP : E.P = Try.prog) (hG : E.G = G) (hc : compileK E n f csh = .ok ir) (hsh : paramShape Try.prog f = some sh) : Known G (capOff + f) (.irK sh csh ir) := fun _ _ _ has hcs hpl hw => conK hP hG hc hsh has hcs hpl hw

theorem kcons {G : Glo} {x : FuncId × Ent} {T : Tbl} (h : Known G x.1 x.2) (hT : ∀ y ∈ T, Known G y.1 y.2) : ∀ y ∈ x :: T, Known G y.1 y.2 := List.forall_mem_cons.2 ⟨h, hT⟩
theorem kappend {G : Glo} {S T : Tbl} (hS : ∀ y ∈ S, Known G y.1 y.2) (hT : ∀ y ∈ T, Known G y.1 y.2) : ∀ y ∈ S ++ T, Known G y.1 y.2 := fun y hy => (List.mem_append.1 hy).elim (hS y) (hT y)

theorem Tbl.at_mem {f : FuncId} {e : Ent} : ∀ {T : Tbl}, Tbl.at T f = some e → (f, e) ∈ T
  | (g, x) :: r, h => by
    unfold Tbl.at at h
    split at h
    · rename_i hg
      cases h
      subst hg
      exact List.mem_cons_self ..
    · exact List.mem_cons_of_mem _ (Tbl.at_mem h)
  | [], h => by cases h

/-- What the run tells of the loops around. -/
def LpsOK (T : Tbl) (R : List DV → Prop) (n : Nat) (Ls : Lps) (L : List Lp) : Prop :=
  Ls.length = L.length ∧ ∀ (l : Nat) j body ρ0 P, Ls[l]? = some (j, body, ρ0) → L[l]? = some P → ∀ m, m < n → ∀ ds rs, run T m body (Ls.take (if j then l else l + 1)) (ρ0 ++ ds) = some rs → R rs → P ds

theorem LpsOK.le {T : Tbl} {R : List DV → Prop} {n m : Nat} {Ls : Lps} {L : List Lp} (h : LpsOK T R n Ls L) (hm : m ≤ n) : LpsOK T R m Ls L :=
  ⟨h.1, fun l j body ρ0 P h1 h2 k hk => h.2 l j body ρ0 P h1 h2 k (by omega)⟩

theorem run_sound {G : Glo} {T : Tbl} (hT : ∀ x ∈ T, Known G x.1 x.2) : ∀ (n : Nat) (ir : IR) (Ls : Lps) (L : List Lp) (ρ : List D) (rs : List DV) (R : List DV → Prop),
    run T n ir Ls ρ = some rs → R rs → LpsOK T R n Ls L → IR.wp (Cn G) R ir L ρ := by
  intro n
  induction n using Nat.strongRecOn with
  | ind n ih =>
    intro ir Ls L ρ rs R h hR hL
    cases n with
    | zero => simp [run] at h
    | succ n =>
      cases ir with
      | ret vs => exact ⟨rs, by simpa [run] using h, hR⟩
      | ite c x y =>
        simp only [run] at h
        split at h
        · rename_i hc
          exact ⟨true, hc, fun _ => ih n (by omega) x Ls L ρ rs R h hR (hL.le (by omega)), fun e => by cases e⟩
        · rename_i hc
          exact ⟨false, hc, (fun e => by cases e), fun _ => ih n (by omega) y Ls L ρ rs R h hR (hL.le (by omega))⟩
        · cases h
      | chk c x =>
        simp only [run] at h
        split at h
        · rename_i hc
          exact ⟨hc, ih n (by omega) x Ls L ρ rs R h hR (hL.le (by omega))⟩
        · cases h
      | may c x y =>
        simp only [run] at h
        split at h
        · rename_i hc
          split at h
          · rename_i a b h1 h2
            split at h
            · rename_i hab
              cases h
              exact ⟨true, hc, fun _ => ih n (by omega) x Ls L ρ rs R h1 hR (hL.le (by omega)), ih n (by omega) y Ls L ρ rs R (by rw [eqV_sound hab]; exact h2) hR (hL.le (by omega))⟩
            · cases h
          · cases h
        · rename_i hc
          exact ⟨false, hc, (fun e => by cases e), ih n (by omega) y Ls L ρ rs R h hR (hL.le (by omega))⟩
        · cases h
      | lt e x =>
        simp only [run] at h
        split at h
        · rename_i d hd
          exact ⟨d, hd, ih n (by omega) x Ls L _ rs R h hR (hL.le (by omega))⟩
        · cases h
      | call f args sh x =>
        simp only [run] at h
        split at h
        · rename_i az haz
          split at h
          · rename_i r1 hr1
            split at h
            · rename_i hrs
              refine ⟨az, r1, haz, ?_, hrs, ih n (by omega) x Ls L _ rs R h hR (hL.le (by omega))⟩
              split at hr1
              · rename_i sh' irf hat
                split at hr1
                · rename_i hsh
                  exact hT _ (Tbl.at_mem hat) az r1 hsh (ih n (by omega) irf [] [] _ r1 _ hr1 rfl ⟨rfl, fun l j body ρ0 P h1 => by simp at h1⟩)
                · cases hr1
              · rename_i sh' csh irf hat
                split at hr1
                · rename_i k r
                  split at hr1
                  · rename_i hcond
                    obtain ⟨rfl, h2, h3⟩ := hcond
                    split at hr1
                    · rename_i rs1 hrun
                      split at hr1
                      · rename_i hpl
                        cases hr1
                        have := hT _ (Tbl.at_mem hat) (r.take sh'.length) (r.drop sh'.length) r1 h2 h3 (fun d hd => D.plainB_sound (List.all_eq_true.1 hpl d hd)) (ih n (by omega) irf [] [] _ r1 _ hrun rfl ⟨rfl, fun l j body ρ0 P h1 => by simp at h1⟩)
                        rwa [List.take_append_drop] at this
                      · cases hr1
                    · cases hr1
                  · cases hr1
                · cases hr1
              · rename_i g hat
                exact hT _ (Tbl.at_mem hat) az r1 hr1
              · cases hr1
            · cases h
          · cases h
        · cases h
      | loop init body =>
        simp only [run] at h
        split at h
        · rename_i ds hds
          refine ⟨n, ds, hds, ?_⟩
          have key : ∀ (N : Nat), N ≤ n → ∀ (m : Nat) (ds : List D) (rs : List DV), m ≤ N → run T m body (Ls ++ [(false, body, ρ)]) (ρ ++ ds) = some rs → R rs →
              (Nat.rec (motive := fun _ => Lp) (fun _ => False) (fun _ Pn es => IR.wp (Cn G) R body (L ++ [Pn]) (ρ ++ es)) N ds : Prop) := by
            intro N
            induction N with
            | zero =>
              intro _ m ds rs hm h _
              obtain rfl : m = 0 := by omega
              simp [run] at h
            | succ N ihN =>
              intro hN m ds rs hm h hR
              refine ih m (by omega) body (Ls ++ [(false, body, ρ)]) _ (ρ ++ ds) rs R h hR ⟨by simp [hL.1], fun l j body' ρ0 P h1 h2 k hk ds' rs' hr hR' => ?_⟩
              by_cases hl : l < Ls.length
              · rw [List.getElem?_append_left hl] at h1
                rw [List.getElem?_append_left (by rw [← hL.1]; exact hl)] at h2
                refine hL.2 l j body' ρ0 P h1 h2 k (by omega) ds' rs' ?_ hR'
                rw [List.take_append_of_le_length (by split <;> omega)] at hr
                exact hr
              · have hl' : l = Ls.length := by
                  have := (List.getElem?_eq_some_iff.1 h1).1
                  simp at this
                  omega
                subst hl'
                rw [List.getElem?_append_right (by omega)] at h1
                simp only [Nat.sub_self, List.getElem?_cons_zero, Option.some.injEq, Prod.mk.injEq] at h1
                obtain ⟨rfl, rfl, rfl⟩ := h1
                rw [List.getElem?_append_right (by rw [hL.1]; omega), hL.1] at h2
                simp only [Nat.sub_self, List.getElem?_cons_zero, Option.some.injEq] at h2
                subst h2
                refine ihN (by omega) k ds' rs' (by omega) ?_ hR'
                rw [List.take_of_length_le (by simp)] at hr
                exact hr
          exact key n (Nat.le_refl _) n ds rs (Nat.le_refl _) h hR
        · cases h
      | cont l vs =>
        simp only [run] at h
        split at h
        · rename_i j body ρ0 ds hl hds
          obtain ⟨P, hP⟩ : ∃ P, L[l]? = some P := by
            have := (List.getElem?_eq_some_iff.1 hl).1
            exact ⟨_, List.getElem?_eq_getElem (by rw [← hL.1]; exact this)⟩
          exact ⟨P, ds, hP, hds, hL.2 l j body ρ0 P hl hP n (by omega) ds rs h hR⟩
        · cases h

      | jn body main =>
        simp only [run] at h
        refine ih n (by omega) main (Ls ++ [(true, body, ρ)]) (L ++ [fun es => IR.wp (Cn G) R body L (ρ ++ es)]) ρ rs R h hR ⟨by simp [hL.1], fun l j body' ρ0 P h1 h2 k hk ds' rs' hr hR' => ?_⟩
        by_cases hl : l < Ls.length
        · rw [List.getElem?_append_left hl] at h1
          rw [List.getElem?_append_left (by rw [← hL.1]; exact hl)] at h2
          refine hL.2 l j body' ρ0 P h1 h2 k (by omega) ds' rs' ?_ hR'
          rw [List.take_append_of_le_length (by split <;> omega)] at hr
          exact hr
        · have hl' : l = Ls.length := by
            have := (List.getElem?_eq_some_iff.1 h1).1
            simp at this
            omega
          subst hl'
          rw [List.getElem?_append_right (by omega)] at h1
          simp only [Nat.sub_self, List.getElem?_cons_zero, Option.some.injEq, Prod.mk.injEq] at h1
          obtain ⟨rfl, rfl, rfl⟩ := h1
          rw [List.getElem?_append_right (by rw [hL.1]; omega), hL.1] at h2
          simp only [Nat.sub_self, List.getElem?_cons_zero, Option.some.injEq] at h2
          subst h2
          simp only [if_true, List.take_left] at hr
          exact ih k (by omega) body Ls L (ρ ++ ds') rs' R hr hR' (hL.le (by omega))

/-- A CONTRACT OUT OF A RUN. -/
theorem con_of_run {G : Glo} {T : Tbl} (hT : ∀ x ∈ T, Known G x.1 x.2) {f : FuncId} {sh : Shape} {ir : IR} (hf : Tbl.at T f = some (.ir sh ir)) (n : Nat) {az rs : List DV} (hs : shapeOf az = sh)
    (h : run T n ir [] (leavesOf az) = some rs) : Cn G f az rs :=
  hT _ (Tbl.at_mem hf) az rs hs (run_sound hT n ir [] [] _ rs _ h rfl ⟨rfl, fun l j body ρ0 P h1 => by simp at h1⟩)

/-- it returned this -/
def isV (r : Option (List DV)) (x : List DV) : Bool := match r with | some y => eqV y x | none => false
theorem isV_eq {r : Option (List DV)} {x : List DV} (h : isV r x = true) : r = some x := by
  unfold isV at h
  split at h
  · rw [eqV_sound h]
  · cases h
/-- both returned the same truth value -/
def sameT (r s : Option (List DV)) : Bool := match r, s with | some [(false, [.b x])], some [(false, [.b y])] => x == y | _, _ => false
theorem sameT_eq {r s : Option (List DV)} (h : sameT r s = true) : ∃ t, r = some [(false, [.b t])] ∧ s = some [(false, [.b t])] := by
  unfold sameT at h
  split at h
  · rename_i x y
    have := eq_of_beq h
    exact ⟨x, rfl, by rw [this]⟩
  · cases h
/-- whatever the truth value -/
def allB (p : Bool → Bool) : Bool := p false && p true
theorem allB_all {p : Bool → Bool} (h : allB p = true) (b : Bool) : p b = true := by
  unfold allB at h
  simp only [Bool.and_eq_true] at h
  cases b
  · exact h.1
  · exact h.2
/-- a part of an IR: t, e: the branches of a question; n: behind a let, a check, a call, or into a loop -/
inductive Dir where
  | t
  | e
  | n
def IR.sub : List Dir → IR → IR
  | [], x => x
  | .n :: r, .lt _ x => IR.sub r x
  | .n :: r, .chk _ x => IR.sub r x
  | .n :: r, .call _ _ _ x => IR.sub r x
  | .n :: r, .loop _ x => IR.sub r x
  | .t :: r, .ite _ x _ => IR.sub r x
  | .e :: r, .ite _ _ y => IR.sub r y
  | .n :: r, .jn _ x => IR.sub r x
  | .t :: r, .may _ x _ => IR.sub r x
  | .e :: r, .may _ _ y => IR.sub r y
  | _, x => x
/-- the rest of a function, run -/
theorem wp_run {G : Glo} {T : Tbl} (hT : ∀ x ∈ T, Known G x.1 x.2) {n : Nat} {ir : IR} {ρ : List D} {rs : List DV} {R : List DV → Prop} (h : run T n ir [] ρ = some rs) (hR : R rs) : IR.wp (Cn G) R ir [] ρ :=
  run_sound hT n ir [] [] ρ rs R h hR ⟨rfl, fun l j body ρ0 P h1 => by simp at h1⟩

/-- an element's leaves -/
def idr (x i : Ex) (j : Nat) : Nat → List Ex
  | 0 => []
  | n + 1 => .idx x i j :: idr x i (j + 1) n
theorem evals_idr {ρ : List D} {x i : Ex} {s : Nat} {rows : List (List D)} {k : IntKind} {m : Nat} {r : List D} (hx : x.eval ρ = some (.sl s rows)) (hi : i.eval ρ = some (.i k (m : Int))) (hr : rows[m]? = some r) :
    ∀ (n j : Nat), j + n ≤ r.length → Ex.evals ρ (idr x i j n) = some ((r.drop j).take n)
  | 0, j, _ => by simp [idr, Ex.evals]
  | n + 1, j, h => by
    have h1 := evals_idr hx hi hr n (j + 1) (by omega)
    have hj : j < r.length := by omega
    have h2 : (Ex.idx x i j).eval ρ = some r[j] := by
      simp only [Ex.eval, hx, hi, idxD]
      rw [if_pos (by omega)]
      simp [hr, List.getElem?_eq_getElem hj]
    simp only [idr, Ex.evals, h1, h2]
    rw [List.drop_eq_getElem_cons hj, List.take_succ_cons]
theorem evals_row {ρ : List D} {x i : Ex} {s : Nat} {rows : List (List D)} {k : IntKind} {m : Nat} {r : List D} {n : Nat} (hx : x.eval ρ = some (.sl s rows)) (hi : i.eval ρ = some (.i k (m : Int))) (hr : rows[m]? = some r) (hn : r.length = n) : Ex.evals ρ (idr x i 0 n) = some r := by
  rw [evals_idr hx hi hr n 0 (by omega), List.drop_zero, List.take_of_length_le (by omega)]

/-- it returned true -/
def isT : Option (List DV) → Bool
  | some [(false, [.b true])] => true
  | _ => false
theorem isT_eq {r : Option (List DV)} (h : isT r = true) : r = some [(false, [.b true])] := by
  unfold isT at h
  split at h
  · rfl
  · cases h
/-- of every byte -/
theorem all_u8 {p : Nat → Bool} (h : (List.range 256).all p = true) {z : Int} (h0 : 0 ≤ z) (h1 : z < 256) : p z.toNat = true := List.all_eq_true.1 h _ (by simp; omega)
end Go.Proofs.Ytffahdloddkcfaa.Sx
