/-
  The small language: data, expressions, the IR and what it means. No Go and no program in sight.
-/
import Derived.WalkKit
import Derived.KernelRfl
namespace Go.Proofs.Ytffahdloddkcfaa.Sx
open Go
set_option linter.unusedSimpArgs false
set_option linter.unusedVariables false

/-- Data: what a cell holds, without addresses. A slice: how many leaves an element has, and the elements' leaves. -/
inductive D where
  | b (x : Bool)
  | i (k : IntKind) (n : Int)
  | s (x : ByteArray)
  | f (g : FuncId)
  | sl (sz : Nat) (xs : List (List D))
  deriving Inhabited

/-- Expressions over variables (by level). -/
inductive Ex where
  | v (n : Nat)
  | c (d : D)
  | bin (op : BinOp) (x y : Ex)
  | un (op : UnOp) (x : Ex)
  | cv (k : IntKind) (x : Ex)
  | ite (c x y : Ex)
  | len (x : Ex)
  | inb (x i : Ex) (n : Nat)
  | rng (i : Ex) (n : Nat)
  | isk (i : Ex) (k : Nat)
  | eqt (g : Bool) (x y : Ex)
  | idx (x i : Ex) (j : Nat)
  | one (xs : List Ex)
  | cat (x y : Ex)
  | sub (x lo hi : Ex)
  | bnd (lo hi top : Ex)
  | put (x i : Ex) (j : Nat) (vs : List Ex)
  | mk (n : Ex) (zs : List Ex)
  | room (x : Ex) (bytes : Nat)
  | app (n : Nat) (x y : Ex)
  deriving Inhabited

def binD (op : BinOp) : D → D → Option D
  | .i k a, .i k' b =>
    match op with
    | .shl => if b < 0 then none else some (.i k (k.wrap (a * 2 ^ (min b.toNat k.bits))))
    | .shr => if b < 0 then none else some (.i k (a.fdiv (2 ^ (min b.toNat k.bits))))
    | _ =>
      if k = k' then
        match op with
        | .add => some (.i k (k.wrap (a + b)))
        | .sub => some (.i k (k.wrap (a - b)))
        | .mul => some (.i k (k.wrap (a * b)))
        | .quo => if b = 0 then none else some (.i k (k.wrap (a.tdiv b)))
        | .rem => if b = 0 then none else some (.i k (a.tmod b))
        | .and => some (.i k (k.wrap (BitVec.ofInt k.bits a &&& BitVec.ofInt k.bits b).toNat))
        | .or => some (.i k (k.wrap (BitVec.ofInt k.bits a ||| BitVec.ofInt k.bits b).toNat))
        | .xor => some (.i k (k.wrap (BitVec.ofInt k.bits a ^^^ BitVec.ofInt k.bits b).toNat))
        | .andNot => some (.i k (k.wrap (BitVec.ofInt k.bits a &&& ~~~ BitVec.ofInt k.bits b).toNat))
        | .eql => some (.b (a == b))
        | .neq => some (.b (a != b))
        | .lss => some (.b (decide (a < b)))
        | .leq => some (.b (decide (a ≤ b)))
        | .gtr => some (.b (decide (a > b)))
        | .geq => some (.b (decide (a ≥ b)))
        | _ => none
      else none
  | _, _ => none

def unD (op : UnOp) : D → Option D
  | .b x => match op with
    | .not => some (.b (!x))
    | _ => none
  | .i k n => match op with
    | .neg => some (.i k (k.wrap (0 - n)))
    | .xor => some (.i k (k.wrap (BitVec.ofInt k.bits (if k.signed then -1 else k.max) ^^^ BitVec.ofInt k.bits n).toNat))
    | _ => none
  | _ => none

/-- equality of two bools, or of two numbers of one kind -/
def eqtD (g : Bool) : D → D → Option D
  | .b x, .b y => if g then some (.b (x == y)) else none
  | .i k a, .i k' b => if g then none else if k = k' then some (.b (a == b)) else none
  | _, _ => none

def catD : D → D → Option D
  | .sl n a, .sl m b => if a.isEmpty then some (.sl m b) else if b.isEmpty then some (.sl n a) else if n = m then some (.sl n (a ++ b)) else none
  | _, _ => none

/-- rows of n leaves, appended to such: a slice without elements may be of whatever width -/
def appD (n : Nat) : D → D → Option D
  | .sl s a, .sl m b => if (s = n ∨ (s = 0 ∧ a.isEmpty)) ∧ (m = n ∨ b.isEmpty) then some (if b.isEmpty then .sl s a else .sl n (a ++ b)) else none
  | _, _ => none

def subD : D → D → D → Option D
  | .sl n a, .i _ lo, .i _ hi => if 0 ≤ lo ∧ lo ≤ hi ∧ hi ≤ a.length then some (.sl n ((a.take hi.toNat).drop lo.toNat)) else none
  | _, _, _ => none

def idxD (j : Nat) : D → D → Option D
  | .sl _ a, .i _ m => if 0 ≤ m then (a[m.toNat]?).bind (·[j]?) else none
  | _, _ => none

/-- new leaves over old ones, from the leaf j on -/
def over {α : Type} (old : List α) (j : Nat) (new : List α) : List α := old.take j ++ new ++ old.drop (j + new.length)

def putD (j : Nat) (vs : List D) : D → D → Option D
  | .sl n a, .i _ m =>
    if 0 ≤ m then
      match a[m.toNat]? with
      | some r => if j + vs.length ≤ r.length then some (.sl n (a.set m.toNat (over r j vs))) else none
      | none => none
    else none
  | _, _ => none

def inbD (n : Nat) : D → D → Option D
  | .sl sz a, .i _ m => some (.b (sz == n && decide (0 ≤ m) && decide (m < a.length)))
  | _, _ => none

mutual
def Ex.eval (ρ : List D) : Ex → Option D
  | .v n => ρ[n]?
  | .c d => some d
  | .bin op x y => match x.eval ρ, y.eval ρ with
    | some a, some b => binD op a b
    | _, _ => none
  | .un op x => match x.eval ρ with
    | some a => unD op a
    | _ => none
  | .cv k x => match x.eval ρ with
    | some (.i _ n) => some (.i k (k.wrap n))
    | _ => none
  | .ite q x y => match q.eval ρ with
    | some (.b t) => if t then x.eval ρ else y.eval ρ
    | _ => none
  | .len x => match x.eval ρ with
    | some (.sl _ xs) => some (.i .i64 xs.length)
    | _ => none
  | .inb x i n => match x.eval ρ, i.eval ρ with
    | some a, some b => inbD n a b
    | _, _ => none
  | .rng i n => match i.eval ρ with
    | some (.i _ m) => some (.b (decide (0 ≤ m) && decide (m < n)))
    | _ => none
  | .isk i k => match i.eval ρ with
    | some (.i _ m) => some (.b (m == k))
    | _ => none
  | .eqt g x y => match x.eval ρ, y.eval ρ with
    | some a, some b => eqtD g a b
    | _, _ => none
  | .idx x i j => match x.eval ρ, i.eval ρ with
    | some a, some b => idxD j a b
    | _, _ => none
  | .one xs => match Ex.evals ρ xs with
    | some ds => some (.sl ds.length [ds])
    | none => none
  | .cat x y => match x.eval ρ, y.eval ρ with
    | some a, some b => catD a b
    | _, _ => none
  | .sub x lo hi => match x.eval ρ, lo.eval ρ, hi.eval ρ with
    | some a, some b, some e => subD a b e
    | _, _, _ => none
  | .bnd lo hi top => match lo.eval ρ, hi.eval ρ, top.eval ρ with
    | some (.i _ a), some (.i _ b), some (.i _ e) => some (.b (decide (0 ≤ a) && decide (a ≤ b) && decide (b ≤ e)))
    | _, _, _ => none
  | .put x i j vs => match x.eval ρ, i.eval ρ, Ex.evals ρ vs with
    | some a, some b, some ds => putD j ds a b
    | _, _, _ => none
  | .mk n zs => match n.eval ρ, Ex.evals ρ zs with
    | some (.i _ m), some ds => if 0 ≤ m then some (.sl ds.length (List.replicate m.toNat ds)) else none
    | _, _ => none
  | .room x bytes => match x.eval ρ with
    | some (.i _ m) => some (.b (decide (0 ≤ m) && decide (m * bytes ≤ 2 ^ 40)))
    | _ => none
  | .app n x y => match x.eval ρ, y.eval ρ with
    | some a, some b => appD n a b
    | _, _ => none
def Ex.evals (ρ : List D) : List Ex → Option (List D)
  | [] => some []
  | x :: xs => match x.eval ρ, Ex.evals ρ xs with
    | some d, some ds => some (d :: ds)
    | _, _ => none
end

/-- A value of data: is it a struct (or an array), and its leaves. -/
abbrev DV := Bool × List D
/-- A value of expressions. -/
abbrev XV := Bool × List Ex
/-- How a call's results look: for each one: is it a struct, and how many leaves has it. -/
abbrev Shape := List (Bool × Nat)

def evalVs (ρ : List D) : List XV → Option (List DV)
  | [] => some []
  | (g, xs) :: r => match Ex.evals ρ xs, evalVs ρ r with
    | some ds, some vs => some ((g, ds) :: vs)
    | _, _ => none

def leavesOf : List DV → List D
  | [] => []
  | (_, ds) :: r => ds ++ leavesOf r

def shapeOf : List DV → Shape
  | [] => []
  | (g, ds) :: r => (g, ds.length) :: shapeOf r

/-- A function's code, as the symbolic executor leaves it. -/
inductive IR where
  | ret (vs : List XV)
  | ite (c : Ex) (x y : IR)
  | chk (c : Ex) (x : IR)
  | lt (e : Ex) (x : IR)
  | call (f : FuncId) (args : List XV) (sh : Shape) (x : IR)
  | may (c : Ex) (x y : IR)
  | loop (init : List Ex) (body : IR)
  | cont (l : Nat) (vs : List Ex)
  | jn (body main : IR)
  deriving Inhabited

abbrev Con := FuncId → List DV → List DV → Prop
abbrev Lp := List D → Prop

/-- What the IR means: C: the callees' contracts; L: the loops around; R: what is asked of the results. -/
def IR.wp (C : Con) (R : List DV → Prop) : IR → List Lp → List D → Prop
  | .ret vs, _, ρ => ∃ rs, evalVs ρ vs = some rs ∧ R rs
  | .ite c x y, L, ρ => ∃ t, c.eval ρ = some (.b t) ∧ (t = true → IR.wp C R x L ρ) ∧ (t = false → IR.wp C R y L ρ)
  | .may c x y, L, ρ => ∃ t, c.eval ρ = some (.b t) ∧ (t = true → IR.wp C R x L ρ) ∧ IR.wp C R y L ρ
  | .chk c x, L, ρ => c.eval ρ = some (.b true) ∧ IR.wp C R x L ρ
  | .lt e x, L, ρ => ∃ d, e.eval ρ = some d ∧ IR.wp C R x L (ρ ++ [d])
  | .call f args sh x, L, ρ => ∃ as rs, evalVs ρ args = some as ∧ C f as rs ∧ shapeOf rs = sh ∧ IR.wp C R x L (ρ ++ leavesOf rs)
  | .loop init body, L, ρ => ∃ (n : Nat) (ds : List D), Ex.evals ρ init = some ds ∧
      Nat.rec (motive := fun _ => Lp) (fun _ => False) (fun _ Pn es => IR.wp C R body (L ++ [Pn]) (ρ ++ es)) n ds
  | .jn body main, L, ρ => IR.wp C R main (L ++ [fun es => IR.wp C R body L (ρ ++ es)]) ρ
  | .cont l vs, L, ρ => ∃ (Pn : Lp) (ds : List D), L[l]? = some Pn ∧ Ex.evals ρ vs = some ds ∧ Pn ds

end Go.Proofs.Ytffahdloddkcfaa.Sx
